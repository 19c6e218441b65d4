/- AttachMarks: where marks stand. -/
import Derived.Test.YtnnkbcgoockniaaH
import Derived.StillTailTactics
namespace Go.Proofs.Ytnnkbcgoockniaa.Q
open Go.RowKit Go.Shelf Go.Proofs.YtnnkbcgoockniaaW.PrintWords Go.Proofs.YtnnkbcgoockniaaW.PrintLast Go.Proofs.YtnnkbcgoockniaaW.PrintMore
set_option linter.unusedSimpArgs false
set_option linter.unusedVariables false

theorem backs_none {l : List S35} {c : Int} {j : Nat} (h : ∀ a ∈ (l.getD j z35).f1, a.f0 ≠ c) : (backs l c (j + 1)).head? = (backs l c j).head? := by
  simp only [backs]
  rw [List.filter_eq_nil_iff.mpr (fun a ha => by simpa using h a ha)]
  rfl
theorem backs_here {l : List S35} {c : Int} {j i : Nat} (hi : i < (l.getD j z35).f1.length) (h : ∀ a ∈ (l.getD j z35).f1.take i, a.f0 ≠ c) (ha : ((l.getD j z35).f1.getD i z33).f0 = c) : (backs l c (j + 1)).head? = some (j, (l.getD j z35).f1.getD i z33) := by
  simp only [backs]
  have e0 : ∀ xs : List S33, i < xs.length → xs = xs.take i ++ xs.getD i z33 :: xs.drop (i + 1) := fun xs hx => by
    rw [List.getD_eq_getElem?_getD, List.getElem?_eq_getElem hx, Option.getD_some, ← List.drop_eq_getElem_cons hx, List.take_append_drop]
  have e := e0 _ hi
  have f : (l.getD j z35).f1.filter (fun a => a.f0 == c) = (l.getD j z35).f1.getD i z33 :: ((l.getD j z35).f1.drop (i + 1)).filter (fun a => a.f0 == c) := by
    conv => lhs; rw [e]
    rw [List.filter_append, List.filter_eq_nil_iff.mpr (fun a ha => by simpa using h a ha), List.filter_cons, if_pos (beq_iff_eq.mpr ha)]
    rfl
  rw [f]
  rfl
set_option maxRecDepth 100000 in
set_option maxHeartbeats 8000000 in
theorem attachMarks_calls (A : Option Addr) (c : Nat) (l : List (List Int)) (w : World) (hr : Kd.C (Kd.slice 3 (Kd.int .i64)) w A l.length l) (hc : l.length ≤ c) :
    Calls Try.prog 5 #[.slice A l.length c] w fun e w' => e = .returned (.bool true) ∧ Below w.heap.size w w' := by
  have HR := Aside0.mk hr
  have HC := Aside0.mk hc
  have HL := Aside0.mk (grid_len hr rfl)
  obtain ⟨ks, hs⟩ := saneK
  have HS := Aside0.mk hs
  obtain ⟨d, hd⟩ : ∃ d, madeF l = d := ⟨_, rfl⟩
  have hdr : ∀ x ∈ d, rightB x = true := by rw [← hd]; exact madeF_right l
  have hd12 : d.length ≤ 12 := by rw [← hd]; exact madeF_len l
  have hpf := placesF_right hdr (by omega)
  obtain ⟨ps, hps⟩ : ∃ ps, placesF d = ps := ⟨_, rfl⟩
  have hpl : ps.length = d.length := by rw [← hps, hpf, placesN_length]
  have HM := Aside0.mk hd
  have HP := Aside0.mk hps
  have HPF := Aside0.mk (show (placesN d d.length).1 = ps by rw [← hps, hpf])
  have HLN := Aside0.mk hpl
  have HDR := Aside0.mk hdr
  have HLE := Aside0.mk hd12
  have hix0 : ∀ (a_ : Addr) (w_ : World), (Instr.indexAt 37 (.pointer (some a_)) (.int .i64 0)).run Try.prog w_ = .ok (.pointer (some a_)) w_ := fun a_ w_ => by kernel_rfl
  have hix1 : ∀ (b_ o_ : Nat) (w_ : World), (Instr.indexAt 37 (.pointer (some ⟨b_, o_, none⟩)) (.int .i64 1)).run Try.prog w_ = .ok (.pointer (some ⟨b_, o_ + 1, none⟩)) w_ := fun b_ o_ w_ => by kernel_rfl
  have HI0 := Aside0.mk hix0
  have HI1 := Aside0.mk hix1
  have HO := Own.start w
  clear hr hc hs hd hdr hd12 hpf hps hpl hix0 hix1
  go_enter Try.func5, Try.ntmps5
  go_wp2_with (first
    | (go_at_call 10; (with_reducible refine (abugidalaw19_sanity.calls ks true _ HS.out).mono ?_); rintro e W1 ⟨rfl, hb1⟩; have HO1 := HO.grow hb1; clear HO hb1)
    | (go_at_call 11; (with_reducible refine (made_calls A c l _ (HO1.old HR.out) HC.out HL.out).mono ?_); rintro e W2 ⟨v2, rfl, hR2, hb2⟩; rw [HM.out] at hR2; have HO2 := HO1.called hb2 hR2; clear HO1 hR2 hb2; obtain ⟨A2, c2, rfl, hl2, hC2⟩ := HO2.row_at 0 rfl)
    | (go_at_call 13; (with_reducible refine (places_calls A2 c2 d _ hC2 hl2).mono ?_); rintro e W3 ⟨v3, rfl, hR3, hb3⟩; rw [HP.out] at hR3; have HO3 := HO2.called hb3 hR3; clear HO2 hR3 hb3 hl2 hC2; obtain ⟨A5, c5, he5, hl5, hC5⟩ := HO3.row_at 1 rfl; rw [HLN.out] at he5; subst he5))
  have HBW := Aside0.mk (HO3.upto 0)
  obtain ⟨_, _, hCd⟩ := HO3.row_sl 0 rfl
  have HCD := Aside0.mk hCd
  have HCP := Aside0.mk hC5
  have HO := Own.start W3
  clear HO3 hCd hC5 hl5
  go_loopw [24] (fun v24 w' => ∃ (k : Nat), v24 = .int .i64 k ∧ Aside0 (k ≤ d.length) ∧ Aside0 (Own W3 w' [])) (fun v24 _ => d.length - (intOf v24).toNat)
  case atStart => exact ⟨0, rfl, ⟨Nat.zero_le _⟩, ⟨HO⟩⟩
  case round =>
    clear HO
    obtain ⟨k, rfl, HK, HOO⟩ := hrel
    have HO := HOO.out
    clear HOO
    by_cases hlt : k < d.length
    case neg =>
      have hkl : k = d.length := by have := HK.out; omega
      have q1 : ¬ ((k : Int) < (d.length : Int)) := by omega
      clear hlt hkl
      go_wp2
      go_ret
      exact ⟨rfl, (HBW.out.grow HO.below).below⟩
    obtain ⟨ad, A0, c0, A1, c1, hA2, x0, x1, x2, x3, x4, x5, y0, y1, y2, y3⟩ := at_T35 HCD.out (k : Int) (by omega) (by omega)
    subst hA2
    rw [show rd_T35 d (k : Int) = d.getD k z35 from rfl] at x0 x1 x2 x3 x4 x5
    rw [Int.toNat_natCast] at x0 x1 x2 x3 x4 x5
    clear y0 y1 y2 y3
    obtain ⟨ad7, hA7, u0, u1⟩ := at_T37 HCP.out (k : Int) (by omega) (by have := HLN.out; omega)
    subst hA7
    rw [show rd_T37 ps (k : Int) = ps.getD k z37 from rfl, Int.toNat_natCast] at u0 u1
    have hget := placesN_get d k d.length hlt
    rw [HPF.out, place1] at hget
    obtain ⟨P, hP⟩ : ∃ P, ps.getD k z37 = P := ⟨_, rfl⟩
    obtain ⟨x, hx⟩ : ∃ x, d.getD k z35 = x := ⟨_, rfl⟩
    rw [hx] at x0 x1 x2 x3 x4 x5 hget
    rw [hP] at u0 u1 hget
    have HU := Aside0.mk (And.intro u0 u1)
    clear u0 u1 hP hx
    replace x0 := pw_cell_below HO.below x0
    replace x1 := pw_cell_below HO.below x1
    replace x2 := pw_cell_below HO.below x2
    replace x3 := pw_cell_below HO.below x3
    replace x4 := pw_cell_below HO.below x4
    replace x5 := pw_cell_below HO.below x5
    have HKL := Aside0.mk hlt
    have p1 : (0 ≤ (k : Int)) = True := eq_true (by omega)
    have q1 : ((k : Int) < (d.length : Int)) = True := eq_true (by omega)
    have hkb : (k : Int) + 1 ≤ 200 := by have := HLE.out; omega
    clear hlt
    by_cases hz : x.f2.f0 = 0
    · have hzb : (x.f2.f0 == 0) = true := beq_iff_eq.mpr hz
      clear hget hz
      go_wp2_with (first
        | ((with_reducible refine gate_dst (N := 7) rfl ?_); refine ev_box (N := 7) (cs := #[.slice none 0 0, .slice none 0 0, .int .i64 0, .int .i64 0, .int .i64 0, .int .i64 0]) (t := 35) HO rfl rfl ?hr ?_; (case hr => first | (go_simp; done) | (go_simp; rfl)); intro g7 W1 HO1 hb1; clear HO hb1 x0 x1 x2 x3 x4 x5)
        | ((with_reducible refine gate_store (t := 35) (p := 7) rfl ?_); refine ev_store (cs' := #[.slice A0 x.f0.length c0, .slice A1 x.f1.length c1, .int .i64 x.f2.f0, .int .i64 x.f2.f1, .int .i64 x.f2.f2, .int .i64 x.f3]) (.agg #[.slice A0 x.f0.length c0, .slice A1 x.f1.length c1, .int .i64 x.f2.f0, .int .i64 x.f2.f1, .int .i64 x.f2.f2, .int .i64 x.f3]) 0 HO1 rfl rfl rfl rfl 0 rfl rfl sz35 (by simp [Value.oneCell', Value.cells]) (Nat.le_refl _) rfl ?_; intro W2 HO2; clear HO1; have z2 := HO2.box_cell 0 rfl 2 rfl; have z3 := HO2.box_cell 0 rfl 3 rfl; have z4 := HO2.box_cell 0 rfl 4 rfl))
      go_roundw
      case rel => exact ⟨k + 1, by go_num, ⟨HKL.out⟩, ⟨HO2.upto 0⟩⟩
      case measure => have := HKL.out; simp [intOf]; omega
    · have hzb : (x.f2.f0 == 0) = false := beq_eq_false_iff_ne.mpr hz
      rw [if_neg hz] at hget
      have HG := Aside0.mk hget
      clear hget hz
      go_wp2_with (first
        | ((with_reducible refine gate_dst (N := 7) rfl ?_); refine ev_box (N := 7) (cs := #[.slice none 0 0, .slice none 0 0, .int .i64 0, .int .i64 0, .int .i64 0, .int .i64 0]) (t := 35) HO rfl rfl ?hr ?_; (case hr => first | (go_simp; done) | (go_simp; rfl)); intro g7 W1 HO1 hb1; clear HO hb1 x0 x1 x2 x3 x4 x5)
        | ((with_reducible refine gate_store (t := 35) (p := 7) rfl ?_); refine ev_store (cs' := #[.slice A0 x.f0.length c0, .slice A1 x.f1.length c1, .int .i64 x.f2.f0, .int .i64 x.f2.f1, .int .i64 x.f2.f2, .int .i64 x.f3]) (.agg #[.slice A0 x.f0.length c0, .slice A1 x.f1.length c1, .int .i64 x.f2.f0, .int .i64 x.f2.f1, .int .i64 x.f2.f2, .int .i64 x.f3]) 0 HO1 rfl rfl rfl rfl 0 rfl rfl sz35 (by simp [Value.oneCell', Value.cells]) (Nat.le_refl _) rfl ?_; intro W2 HO2; clear HO1; have z2 := HO2.box_cell 0 rfl 2 rfl; have z3 := HO2.box_cell 0 rfl 3 rfl; have z4 := HO2.box_cell 0 rfl 4 rfl))
      go_loopw [8, 9] (fun v8 v9 w2 => ∃ (j : Nat) (f : Bool), v8 = .bool f ∧ v9 = .int .i64 ((j : Int) - 1) ∧ Aside0 (j ≤ k) ∧ Aside0 (f = false → (backs d x.f2.f0 j).head? = (backs d x.f2.f0 k).head?) ∧ Aside0 (Own W3 w2 [.box g7 35 #[.slice A0 x.f0.length c0, .slice A1 x.f1.length c1, .int .i64 x.f2.f0, .int .i64 x.f2.f1, .int .i64 x.f2.f2, .int .i64 x.f3]])) (fun v8 v9 _ => (intOf v9 + 1).toNat)
      case atStart => exact ⟨k, false, rfl, (by first | rfl | go_num), ⟨Nat.le_refl _⟩, ⟨fun _ => rfl⟩, ⟨HO2⟩⟩
      case round =>
        clear HO2 z2 z3 z4
        obtain ⟨j, f, rfl, rfl, HJ, HF, HOO⟩ := hrel
        have HO := HOO.out
        clear HOO
        cases f with
        | true =>
          by_cases cj : (j : Int) - 1 ≥ 0
          · go_wp2
            go_roundw
            case rel => exact ⟨k + 1, by go_num, ⟨HKL.out⟩, ⟨HO.upto 0⟩⟩
            case measure => have := HKL.out; simp [intOf]; omega
          · go_wp2
            go_roundw
            case rel => exact ⟨k + 1, by go_num, ⟨HKL.out⟩, ⟨HO.upto 0⟩⟩
            case measure => have := HKL.out; simp [intOf]; omega
        | false =>
          cases j with
          | zero =>
            have hh := HF.out (by trivial)
            have hp := HG.out
            rw [← hh] at hp
            have hp1 : P.f1 = 0 := by rw [hp]; rfl
            have u0 := pw_cell_below HO.below HU.out.1
            have u1 := pw_cell_below HO.below HU.out.2
            rw [hp1] at u1
            have hix1 := HI1.out
            clear hh hp hp1
            have cj : ¬ (((0 : Nat) : Int) - 1 ≥ 0) := by omega
            go_wp2
            go_roundw
            case rel => exact ⟨k + 1, by go_num, ⟨HKL.out⟩, ⟨HO.upto 0⟩⟩
            case measure => have := HKL.out; simp [intOf]; omega
          | succ j =>
            have hjk : j < k := by have := HJ.out; omega
            have hjd : j < d.length := by have := HKL.out; omega
            obtain ⟨ad2, B0, b0, B1, b1, hB2, r0, r1, r2, r3, r4, r5, s0, s1, s2, s3⟩ := at_T35 HCD.out (j : Int) (by omega) (by omega)
            injection hB2 with hB2
            subst hB2
            rw [show rd_T35 d (j : Int) = d.getD j z35 from rfl] at r1 s3
            rw [Int.toNat_natCast] at r1
            clear r0 r2 r3 r4 r5 s0 s1 s2
            obtain ⟨xs, hxs⟩ : ∃ xs, (d.getD j z35).f1 = xs := ⟨_, rfl⟩
            rw [hxs] at r1 s3
            have HXS := Aside0.mk hxs
            have HS3 := Aside0.mk s3
            have hxm := Kd.C_max s3
            replace r1 := pw_cell_below HO.below r1
            obtain ⟨ad8, hA8, v0, v1⟩ := at_T37 HCP.out (j : Int) (by omega) (by have := HLN.out; omega)
            injection hA8 with hA8
            subst hA8
            rw [show rd_T37 ps (j : Int) = ps.getD j z37 from rfl, Int.toNat_natCast] at v0 v1
            obtain ⟨Qp, hQ⟩ : ∃ Qp, ps.getD j z37 = Qp := ⟨_, rfl⟩
            rw [hQ] at v0 v1
            have HV := Aside0.mk (And.intro v0 v1)
            have hq1 := placesN_get d j k hjk
            have hq2 := placesN_get d j d.length hjd
            rw [HPF.out, hQ] at hq2
            have HQ := Aside0.mk (show (placesN d k).1.getD j z37 = Qp by rw [hq1, hq2])
            have HJK := Aside0.mk (And.intro hjk hjd)
            clear v0 v1 s3 hxs hQ hq1 hq2
            rw [show (((j + 1 : Nat) : Int) - 1) = (j : Int) by omega]
            have cj : (j : Int) ≥ 0 := by omega
            have pj : (0 ≤ (j : Int)) = True := eq_true (by omega)
            have qj : ((j : Int) < (d.length : Int)) = True := eq_true (by omega)
            have hjb : (j : Int) + 1 ≤ 200 := by omega
            clear hjk hjd
            go_wp2
            go_loopw [8, 49] (fun v8 v49 w2 => ∃ (i : Nat), v8 = .bool false ∧ v49 = .int .i64 i ∧ Aside0 (i ≤ xs.length) ∧ Aside0 (∀ a ∈ xs.take i, a.f0 ≠ x.f2.f0) ∧ Aside0 (Own W3 w2 [.box g7 35 #[.slice A0 x.f0.length c0, .slice A1 x.f1.length c1, .int .i64 x.f2.f0, .int .i64 x.f2.f1, .int .i64 x.f2.f2, .int .i64 x.f3]])) (fun _ v49 _ => xs.length - (intOf v49).toNat)
            case atStart => exact ⟨0, rfl, rfl, ⟨Nat.zero_le _⟩, ⟨by simp⟩, ⟨HO⟩⟩
            case round =>
              clear HO r1
              obtain ⟨i, rfl, rfl, HI, HN, HOO⟩ := hrel
              have HO := HOO.out
              clear HOO
              by_cases hil : i < xs.length
              case neg =>
                have hie : i = xs.length := by have := HI.out; omega
                have hna : ∀ a ∈ (d.getD j z35).f1, a.f0 ≠ x.f2.f0 := fun a ha => by
                  refine HN.out a ?_
                  rw [hie, List.take_of_length_le (Nat.le_refl _), ← HXS.out]
                  exact ha
                have HBN := Aside0.mk (backs_none hna)
                have q3 : ¬ ((i : Int) < (xs.length : Int)) := by omega
                clear hna hil hie
                go_wp2
                go_roundw
                case rel => exact ⟨j, false, rfl, by go_num, ⟨by have := HJ.out; omega⟩, ⟨fun _ => HBN.out.symm.trans (HF.out (by trivial))⟩, ⟨HO⟩⟩
                case measure => first | (simp [intOf]; done) | (simp [intOf]; omega)
              obtain ⟨ad9, hA9, w0, w1, w2⟩ := at_T33 HS3.out (i : Int) (by omega) (by omega)
              subst hA9
              rw [show rd_T33 xs (i : Int) = xs.getD i z33 from rfl, Int.toNat_natCast] at w0 w1 w2
              obtain ⟨a, ha⟩ : ∃ a, xs.getD i z33 = a := ⟨_, rfl⟩
              rw [ha] at w0 w1 w2
              replace w0 := pw_cell_below HO.below w0
              replace w1 := pw_cell_below HO.below w1
              replace w2 := pw_cell_below HO.below w2
              have HAI := Aside0.mk ha
              have HIL := Aside0.mk hil
              have p3 : (0 ≤ (i : Int)) = True := eq_true (by omega)
              have q3 : ((i : Int) < (xs.length : Int)) = True := eq_true (by omega)
              have hib : (i : Int) + 1 ≤ 9223372036854775807 := by omega
              have z2 := HO.box_cell 0 rfl 2 rfl; have z3 := HO.box_cell 0 rfl 3 rfl; have z4 := HO.box_cell 0 rfl 4 rfl
              clear ha hil
              by_cases hc : a.f0 = x.f2.f0
              · have hcb : (a.f0 == x.f2.f0) = true := beq_iff_eq.mpr hc
                have hbh := backs_here (l := d) (c := x.f2.f0) (j := j) (i := i) (by rw [HXS.out]; exact HIL.out) (by rw [HXS.out]; exact HN.out) (by rw [HXS.out, HAI.out]; exact hc)
                rw [HF.out (by trivial), HXS.out, HAI.out] at hbh
                have hp := HG.out
                rw [hbh] at hp
                dsimp only at hp
                rw [HQ.out] at hp
                have e0 : P.f0 + x.f2.f1 = Qp.f0 + a.f1 := by rw [hp]; simp only; omega
                have e1 : P.f1 + x.f2.f2 = Qp.f1 + a.f2 := by rw [hp]; simp only; omega
                have n0 : (IntKind.i64.wrap (P.f0 + x.f2.f1) != IntKind.i64.wrap (Qp.f0 + a.f1)) = false := by rw [e0]; simp
                have n1 : (IntKind.i64.wrap (P.f1 + x.f2.f2) != IntKind.i64.wrap (Qp.f1 + a.f2)) = false := by rw [e1]; simp
                have n2 : (IntKind.i64.wrap (P.f0 + x.f2.f1) == IntKind.i64.wrap (Qp.f0 + a.f1)) = true := by rw [e0]; simp
                have n3 : (IntKind.i64.wrap (P.f1 + x.f2.f2) == IntKind.i64.wrap (Qp.f1 + a.f2)) = true := by rw [e1]; simp
                clear hbh hp hc e0 e1
                go_upto_region 19 with (first
                  | ((with_reducible refine gate_dst (N := 11) rfl ?_); refine ev_box (N := 11) (cs := #[.int .i64 0, .int .i64 0, .int .i64 0]) (t := 33) HO rfl rfl ?hr ?_; (case hr => first | (go_simp; done) | (go_simp; rfl)); intro g11 W4 HO4 hb4; clear HO hb4 z2 z3 z4 w0 w1 w2)
                  | ((with_reducible refine gate_store (t := 33) (p := 11) rfl ?_); refine ev_store (cs' := #[.int .i64 a.f0, .int .i64 a.f1, .int .i64 a.f2]) (.agg #[.int .i64 a.f0, .int .i64 a.f1, .int .i64 a.f2]) 1 HO4 rfl rfl rfl rfl 0 rfl rfl sz33 (by simp [Value.oneCell', Value.cells]) (Nat.le_refl _) rfl ?_; intro W5 HO5; clear HO4; have z2 := HO5.box_cell 0 rfl 2 rfl; have z3 := HO5.box_cell 0 rfl 3 rfl; have z4 := HO5.box_cell 0 rfl 4 rfl; have y0 := HO5.box_cell 1 rfl 0 rfl; have y1 := HO5.box_cell 1 rfl 1 rfl; have y2 := HO5.box_cell 1 rfl 2 rfl; have u0 := pw_cell_below HO5.below HU.out.1; have u1 := pw_cell_below HO5.below HU.out.2; have v0 := pw_cell_below HO5.below HV.out.1; have v1 := pw_cell_below HO5.below HV.out.2; have hix0 := HI0.out; have hix1 := HI1.out))
                go_still_tail 37, (by kernel_rfl)
                change wpList _ _ _ _ _ W5.drew
                have HO6 := HO5.drew
                clear HO5
                go_wp2
                go_roundw
                case rel => exact ⟨j, true, rfl, by go_num, ⟨by have := HJ.out; omega⟩, ⟨fun h => by cases h⟩, ⟨HO6.upto 1⟩⟩
                case measure => first | (simp [intOf]; done) | (simp [intOf]; omega)
              · have hcb : (a.f0 == x.f2.f0) = false := beq_eq_false_iff_ne.mpr hc
                have HNA := Aside0.mk (show ∀ b ∈ xs.take (i + 1), b.f0 ≠ x.f2.f0 from fun b hb => by
                  rw [List.take_add_one, List.mem_append] at hb
                  rcases hb with hb | hb
                  · exact HN.out b hb
                  · rw [List.getElem?_eq_getElem HIL.out] at hb
                    have h2 : b = xs[i]'HIL.out := by simpa using hb
                    have h3 := HAI.out
                    rw [List.getD_eq_getElem?_getD, List.getElem?_eq_getElem HIL.out] at h3
                    rw [h2, show xs[i]'HIL.out = a from h3]
                    exact hc)
                clear hc
                go_wp2_with (first
                  | ((with_reducible refine gate_dst (N := 11) rfl ?_); refine ev_box (N := 11) (cs := #[.int .i64 0, .int .i64 0, .int .i64 0]) (t := 33) HO rfl rfl ?hr ?_; (case hr => first | (go_simp; done) | (go_simp; rfl)); intro g11 W4 HO4 hb4; clear HO hb4 z2 z3 z4 w0 w1 w2)
                  | ((with_reducible refine gate_store (t := 33) (p := 11) rfl ?_); refine ev_store (cs' := #[.int .i64 a.f0, .int .i64 a.f1, .int .i64 a.f2]) (.agg #[.int .i64 a.f0, .int .i64 a.f1, .int .i64 a.f2]) 1 HO4 rfl rfl rfl rfl 0 rfl rfl sz33 (by simp [Value.oneCell', Value.cells]) (Nat.le_refl _) rfl ?_; intro W5 HO5; clear HO4; have z2 := HO5.box_cell 0 rfl 2 rfl; have z3 := HO5.box_cell 0 rfl 3 rfl; have z4 := HO5.box_cell 0 rfl 4 rfl; have y0 := HO5.box_cell 1 rfl 0 rfl; have y1 := HO5.box_cell 1 rfl 1 rfl; have y2 := HO5.box_cell 1 rfl 2 rfl))
                go_roundw
                case rel => exact ⟨i + 1, rfl, by go_num, ⟨HIL.out⟩, HNA, ⟨HO5.upto 1⟩⟩
                case measure => have := HIL.out; simp [intOf]; omega
theorem attachMarks_walk (A : Option Addr) (c n : Nat) (l : List (List Int)) (w : World) (hn : n = l.length) (hr : Kd.C (Kd.slice 3 (Kd.int .i64)) w A l.length l) (hc : n ≤ c) :
    Calls Try.prog 5 #[.slice A n c] w fun e w' => e = .returned (.bool true) ∧ Below w.heap.size w w' := by
  subst hn
  exact attachMarks_calls A c l w hr hc
end Go.Proofs.Ytnnkbcgoockniaa.Q

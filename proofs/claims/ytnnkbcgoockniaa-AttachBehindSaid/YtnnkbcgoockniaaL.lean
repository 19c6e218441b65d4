/- AttachBehind's walk. -/
import Derived.Test.YtnnkbcgoockniaaJ
import Derived.Test.YtnnkbcgoockniaaK
namespace Go.Proofs.Ytnnkbcgoockniaa.Q
open Go.RowKit Go.Shelf Go.Proofs.YtnnkbcgoockniaaW.PrintWords Go.Proofs.YtnnkbcgoockniaaW.PrintLast Go.Proofs.YtnnkbcgoockniaaW.PrintMore
set_option linter.unusedSimpArgs false
set_option linter.unusedVariables false

theorem take_calls {A : Option Addr} {c k : Nat} {d : List S35} {W : World} (hC : k35.C W A d.length d) (hl : d.length ≤ c) (hk : k < d.length) (hr : ∀ x ∈ d, rightB x = true) (h12 : d.length ≤ 200) :
    Calls Try.prog 13 #[.slice A (k + 1) c] W fun e w' => ∃ v, e = .returned v ∧ Kd.R k37 37 w' W.heap.size (fun _ => True) v ((placesF d).take (k + 1)) ∧ Below W.heap.size W w' := by
  have hn : (d.take (k + 1)).length = k + 1 := by rw [List.length_take]; omega
  have h := places_calls A c (d.take (k + 1)) W (Kd.C_take hC hk) (by omega)
  rw [placesF_take hr h12, hn] at h
  exact h
theorem same_calls {A1 A2 : Option Addr} {c1 c2 n : Nat} {l l2 : List S37} {W : World} (hn : l.length = n) (hC1 : k37.C W A1 l.length l) (hl1 : n ≤ c1) (hC2 : k37.C W A2 l2.length l2) (hle : n ≤ l2.length) (hl2 : n ≤ c2) (h : l2.take n = l) (hm : n ≤ 9223372036854775807) :
    Calls Try.prog 12 #[.slice A1 n c1, .slice A2 n c2] W fun e w' => e = .returned (.bool true) ∧ Below W.heap.size W w' := by
  subst h
  obtain ⟨km, hkm⟩ := sameK (l2.take n) (by omega)
  have h := abugidaref19_Same.calls km A1 c1 (l2.take n) A2 c2 (l2.take n) true W hC1 (by omega) (Kd.C_take hC2 hle) (by omega) hkm
  rw [hn] at h
  exact h.mono (fun e w' h => ⟨h.1, h.2.below⟩)
theorem rest_calls {A : Option Addr} {c n : Nat} {r : List S35} {W0 : World} (hn : r.length = n) (hC : k35.C W0 A r.length r) (hl : n ≤ c) {q : List S37} (hF : placesF r = q) (W : World) (hb : Below W0.heap.size W0 W) :
    Calls Try.prog 13 #[.slice A n c] W fun e w' => ∃ v, e = .returned v ∧ Kd.R k37 37 w' W.heap.size (fun _ => True) v q ∧ Below W.heap.size W w' := by
  subst hn
  subst hF
  exact places_calls A c r W (Kd.C_below hC hb) hl
set_option maxRecDepth 100000 in
set_option maxHeartbeats 8000000 in
theorem attachBehind_calls (A : Option Addr) (c : Nat) (l : List (List Int)) (b : Int) (w : World) (hr : Kd.C (Kd.slice 3 (Kd.int .i64)) w A l.length l) (hc : l.length ≤ c) (hb0 : 0 ≤ b) (hb1 : b ≤ 255) :
    Calls Try.prog 7 #[.slice A l.length c, .int .u8 b] w fun e w' => e = .returned (.bool true) ∧ Below w.heap.size w w' := by
  have HR := Aside0.mk hr
  have HC := Aside0.mk hc
  have HL := Aside0.mk (grid_len hr rfl)
  obtain ⟨ks, hs⟩ := saneK
  have HS := Aside0.mk hs
  obtain ⟨d, hd⟩ : ∃ d, madeF l = d := ⟨_, rfl⟩
  have hdr : ∀ x ∈ d, rightB x = true := by rw [← hd]; exact madeF_right l
  have hd12 : d.length ≤ 12 := by rw [← hd]; exact madeF_len l
  have hpf := placesF_right hdr (by omega)
  obtain ⟨ps, hps⟩ : ∃ ps, placesF d = ps := ⟨_, rfl⟩
  have hpl : ps.length = d.length := by rw [← hps, hpf, placesN_length]
  have HM := Aside0.mk hd
  have HP := Aside0.mk hps
  have HPF := Aside0.mk (show (placesN d d.length).1 = ps by rw [← hps, hpf])
  have HLN := Aside0.mk hpl
  have HDR := Aside0.mk hdr
  have HLE := Aside0.mk hd12
  have HO := Own.start w
  have hw : IntKind.i64.wrap b = b := IntWalk.i64_in b (by omega)
  clear hr hc hs hd hdr hd12 hpf hps hpl
  by_cases hd0 : d.length = 0
  · have q0 : ((d.length : Int) == 0) = true := beq_iff_eq.mpr (by omega)
    clear hd0
    go_enter Try.func7, Try.ntmps7
    go_wp2_with (first
      | (go_at_call 10; (with_reducible refine (abugidalaw19_sanity.calls ks true _ HS.out).mono ?_); rintro e W1 ⟨rfl, hb1⟩; have HO1 := HO.grow hb1; clear HO hb1)
      | (go_at_call 11; (with_reducible refine (made_calls A c l _ (HO1.old HR.out) HC.out HL.out).mono ?_); rintro e W2 ⟨v2, rfl, hR2, hb2⟩; rw [HM.out] at hR2; have HO2 := HO1.called hb2 hR2; clear HO1 hR2 hb2; obtain ⟨A2, c2, rfl, hl2, hC2⟩ := HO2.row_at 0 rfl))
    go_ret
    exact ⟨rfl, HO2.below⟩
  · have q0 : ((d.length : Int) == 0) = false := beq_eq_false_iff_ne.mpr (by omega)
    have HD0 := Aside0.mk hd0
    have hnz : ((d.length : Int) = 0) = False := eq_false (by omega)
    have hnz2 : (d.length = 0) = False := eq_false (by omega)
    obtain ⟨k, hk, hkd⟩ : ∃ k : Nat, Int.tmod b (d.length : Int) = (k : Int) ∧ k < d.length := by
      rw [Int.tmod_eq_emod_of_nonneg hb0]
      have h1 := Int.emod_nonneg b (show (d.length : Int) ≠ 0 by omega)
      have h2 := Int.emod_lt_of_pos b (show (0 : Int) < d.length by omega)
      exact ⟨(b % (d.length : Int)).toNat, by omega, by omega⟩
    have HKD := Aside0.mk hkd
    clear hd0 hkd
    go_enter Try.func7, Try.ntmps7
    go_upto_region 6 with (first
      | (go_at_call 10; (with_reducible refine (abugidalaw19_sanity.calls ks true _ HS.out).mono ?_); rintro e W1 ⟨rfl, hb1⟩; have HO1 := HO.grow hb1; clear HO hb1)
      | (go_at_call 11; (with_reducible refine (made_calls A c l _ (HO1.old HR.out) HC.out HL.out).mono ?_); rintro e W2 ⟨v2, rfl, hR2, hb2⟩; rw [HM.out] at hR2; have HO2 := HO1.called hb2 hR2; clear HO1 hR2 hb2; obtain ⟨A2, c2, rfl, hl2, hC2⟩ := HO2.row_at 0 rfl))
    have p1 : (0 ≤ (k : Int)) = True := eq_true (by omega)
    have q1 : ((k : Int) < (d.length : Int)) = True := eq_true (by have := HKD.out; omega)
    have hkb : (k : Int) + 1 ≤ 200 := by have := HLE.out; have := HKD.out; omega
    have e1 : (0 ≤ (k : Int) + 1) = True := eq_true (by omega)
    have e2 : ((k : Int) + 1 ≤ (c2 : Int)) = True := eq_true (by have := HKD.out; omega)
    have e3 : (k + 1 ≤ c2) = True := eq_true (by have := HKD.out; omega)
    have HTK := Aside0.mk (show (d.take (k + 1)).length = k + 1 by rw [List.length_take]; have := HKD.out; omega)
    have HPT := Aside0.mk (show (ps.take (k + 1)).length = k + 1 by rw [List.length_take]; have := HKD.out; have := HLN.out; omega)
    have HFT := Aside0.mk (show placesF (d.take (k + 1)) = ps.take (k + 1) by rw [placesF_take HDR.out (by have := HLE.out; omega), HP.out])
    obtain ⟨km, hkm⟩ := sameK (ps.take (k + 1)) (by rw [HPT.out]; omega)
    have HSK := Aside0.mk hkm
    obtain ⟨x, hx⟩ : ∃ x, d.getD k z35 = x := ⟨_, rfl⟩
    have HX := Aside0.mk hx
    clear hkm hx
    by_cases hz : x.f2.f0 = 0
    · have hzb : (x.f2.f0 == 0) = true := beq_iff_eq.mpr hz
      clear hz
      go_wp2_with (first
      | (go_at_call 13; (with_reducible refine (places_calls A2 c2 d _ hC2 hl2).mono ?_); rintro e W3 ⟨v3, rfl, hR3, hb3⟩; rw [HP.out] at hR3; have HO3 := HO2.called hb3 hR3; clear HO2 hR3 hb3 hl2 hC2; obtain ⟨A5, c5, he5, hl5, -⟩ := HO3.row_at 1 rfl; rw [HLN.out] at he5 hl5; subst he5; obtain ⟨-, hl2, hC2⟩ := HO3.row_sl 0 rfl; have hPT := take_calls hC2 hl2 HKD.out HDR.out (Nat.le_trans HLE.out (by decide)); rw [HP.out] at hPT; have h5 : (k : Int) + 1 ≤ (c5 : Int) := (by have := HKD.out; omega); have e4 : ((k : Int) + 1 ≤ (c5 : Int)) = True := eq_true h5; have e5 : (k + 1 ≤ c5) = True := eq_true (by omega); clear h5 hC2)
      | (go_at_call 13; (with_reducible refine hPT.mono ?_); rintro e W4 ⟨v4, rfl, hR4, hb4⟩; have HO4 := HO3.called hb4 hR4; clear HO3 hR4 hb4 hPT; obtain ⟨A7, c7, he7, hl7, hC7⟩ := HO4.row_at 2 rfl; rw [HPT.out] at he7; subst he7; obtain ⟨-, -, hC5⟩ := HO4.row_sl 1 rfl; have hSM := same_calls (c2 := c5) HPT.out hC7 (by rw [← HPT.out]; exact hl7) hC5 (by have h1 := HLN.out; have h2 := HKD.out; omega) (by have h2 := HKD.out; omega) rfl (by omega); clear hC7 hl7 hC5)
      | (go_at_call 12; (with_reducible refine hSM.mono ?_); rintro e W5 ⟨rfl, hdr5⟩; have HO5 := HO4.grow hdr5; clear HO4 hdr5 hSM; obtain ⟨-, -, hC2⟩ := HO5.row_sl 0 rfl; obtain ⟨ad, B0, b0, B1, b1, hA2, -, x1, x2, -, -, -, -, -, -, -⟩ := at_T35 hC2 (k : Int) (by omega) (by have := HKD.out; omega); subst hA2; rw [show rd_T35 d (k : Int) = d.getD k z35 from rfl, Int.toNat_natCast, HX.out] at x1 x2; clear hC2))
      go_ret
      exact ⟨rfl, HO5.below⟩
    have hzb : (x.f2.f0 == 0) = false := beq_eq_false_iff_ne.mpr hz
    have HZ := Aside0.mk hz
    clear hz
    by_cases hn : (x.f1.length : Int) > 0
    · go_wp2_with (first
      | (go_at_call 13; (with_reducible refine (places_calls A2 c2 d _ hC2 hl2).mono ?_); rintro e W3 ⟨v3, rfl, hR3, hb3⟩; rw [HP.out] at hR3; have HO3 := HO2.called hb3 hR3; clear HO2 hR3 hb3 hl2 hC2; obtain ⟨A5, c5, he5, hl5, -⟩ := HO3.row_at 1 rfl; rw [HLN.out] at he5 hl5; subst he5; obtain ⟨-, hl2, hC2⟩ := HO3.row_sl 0 rfl; have hPT := take_calls hC2 hl2 HKD.out HDR.out (Nat.le_trans HLE.out (by decide)); rw [HP.out] at hPT; have h5 : (k : Int) + 1 ≤ (c5 : Int) := (by have := HKD.out; omega); have e4 : ((k : Int) + 1 ≤ (c5 : Int)) = True := eq_true h5; have e5 : (k + 1 ≤ c5) = True := eq_true (by omega); clear h5 hC2)
      | (go_at_call 13; (with_reducible refine hPT.mono ?_); rintro e W4 ⟨v4, rfl, hR4, hb4⟩; have HO4 := HO3.called hb4 hR4; clear HO3 hR4 hb4 hPT; obtain ⟨A7, c7, he7, hl7, hC7⟩ := HO4.row_at 2 rfl; rw [HPT.out] at he7; subst he7; obtain ⟨-, -, hC5⟩ := HO4.row_sl 1 rfl; have hSM := same_calls (c2 := c5) HPT.out hC7 (by rw [← HPT.out]; exact hl7) hC5 (by have h1 := HLN.out; have h2 := HKD.out; omega) (by have h2 := HKD.out; omega) rfl (by omega); clear hC7 hl7 hC5)
      | (go_at_call 12; (with_reducible refine hSM.mono ?_); rintro e W5 ⟨rfl, hdr5⟩; have HO5 := HO4.grow hdr5; clear HO4 hdr5 hSM; obtain ⟨-, -, hC2⟩ := HO5.row_sl 0 rfl; obtain ⟨ad, B0, b0, B1, b1, hA2, -, x1, x2, -, -, -, -, -, -, -⟩ := at_T35 hC2 (k : Int) (by omega) (by have := HKD.out; omega); subst hA2; rw [show rd_T35 d (k : Int) = d.getD k z35 from rfl, Int.toNat_natCast, HX.out] at x1 x2; clear hC2))
      go_ret
      exact ⟨rfl, HO5.below⟩
    have HN := Aside0.mk hn
    go_upto_region 12 with (first
      | (go_at_call 13; (with_reducible refine (places_calls A2 c2 d _ hC2 hl2).mono ?_); rintro e W3 ⟨v3, rfl, hR3, hb3⟩; rw [HP.out] at hR3; have HO3 := HO2.called hb3 hR3; clear HO2 hR3 hb3 hl2 hC2; obtain ⟨A5, c5, he5, hl5, -⟩ := HO3.row_at 1 rfl; rw [HLN.out] at he5 hl5; subst he5; obtain ⟨-, hl2, hC2⟩ := HO3.row_sl 0 rfl; have hPT := take_calls hC2 hl2 HKD.out HDR.out (Nat.le_trans HLE.out (by decide)); rw [HP.out] at hPT; have h5 : (k : Int) + 1 ≤ (c5 : Int) := (by have := HKD.out; omega); have e4 : ((k : Int) + 1 ≤ (c5 : Int)) = True := eq_true h5; have e5 : (k + 1 ≤ c5) = True := eq_true (by omega); clear h5 hC2)
      | (go_at_call 13; (with_reducible refine hPT.mono ?_); rintro e W4 ⟨v4, rfl, hR4, hb4⟩; have HO4 := HO3.called hb4 hR4; clear HO3 hR4 hb4 hPT; obtain ⟨A7, c7, he7, hl7, hC7⟩ := HO4.row_at 2 rfl; rw [HPT.out] at he7; subst he7; obtain ⟨-, -, hC5⟩ := HO4.row_sl 1 rfl; have hSM := same_calls (c2 := c5) HPT.out hC7 (by rw [← HPT.out]; exact hl7) hC5 (by have h1 := HLN.out; have h2 := HKD.out; omega) (by have h2 := HKD.out; omega) rfl (by omega); clear hC7 hl7 hC5)
      | (go_at_call 12; (with_reducible refine hSM.mono ?_); rintro e W5 ⟨rfl, hdr5⟩; have HO5 := HO4.grow hdr5; clear HO4 hdr5 hSM; obtain ⟨-, -, hC2⟩ := HO5.row_sl 0 rfl; obtain ⟨ad, B0, b0, B1, b1, hA2, -, x1, x2, -, -, -, -, -, -, -⟩ := at_T35 hC2 (k : Int) (by omega) (by have := HKD.out; omega); subst hA2; rw [show rd_T35 d (k : Int) = d.getD k z35 from rfl, Int.toNat_natCast, HX.out] at x1 x2; clear hC2))
    have HX1 := Aside0.mk x1
    clear x1 x2 e1 e2 e3 e4 e5
    have HBW := Aside0.mk (HO5.upto 0)
    have HCD := Aside0.mk (HO5.row_sl 0 rfl).2.2
    have HCP := Aside0.mk (HO5.row_sl 1 rfl).2.2
    have HC2 := Aside0.mk (HO5.row_sl 0 rfl).2.1
    have HC5 := Aside0.mk (HO5.row_sl 1 rfl).2.1
    have HO := Own.start W5
    clear HO5
    have e0 : ((k : Int) ≤ (c2 : Int)) = True := eq_true (by have := HC2.out; have := HKD.out; omega)
    have e1 : (k ≤ c2) = True := eq_true (by have := HC2.out; have := HKD.out; omega)
    have e2 : ((k : Int) + 1 ≤ (d.length : Int)) = True := eq_true (by have := HKD.out; omega)
    have e3 : (k + 1 ≤ d.length) = True := eq_true (by have := HKD.out; omega)
    have e4 : ((d.length : Int) ≤ (c2 : Int)) = True := eq_true (by have := HC2.out; omega)
    have e5 : (0 ≤ (k : Int) + 1) = True := eq_true (by omega)
    have HK12 := Aside0.mk (show k ≤ 12 ∧ d.length ≤ 12 by have := HLE.out; have := HKD.out; omega)
    have HTL := Aside0.mk (show (d.take k).length = k by rw [List.length_take]; have := HKD.out; omega)
    have HDL := Aside0.mk (show (d.drop (k + 1)).length = d.length - (k + 1) by rw [List.length_drop])
    have HRL := Aside0.mk (show (d.take k ++ d.drop (k + 1)).length = d.length - 1 by rw [List.length_append, HTL.out, HDL.out]; have := HKD.out; omega)
    have hwk : IntKind.i64.wrap ((k : Int) + 1) = (k : Int) + 1 := IntWalk.i64_in _ (by omega)
    have htn : ((k : Int) + 1).toNat = k + 1 := by omega
    have HO8 := HO.drew.lit0 (Kd.old k35 W5) 35
    clear HO
    go_region_law (first
      | ((refine ev_rows_step (d := Kd.old k35 W5) 0 HO8 rfl (by rfl) (.tmp 61) (.tmp 64) 24 (.agg #[.slice none 0 0, .slice none 0 0, .int .i64 0, .int .i64 0, .int .i64 0, .int .i64 0]) 80 rfl Try.underlying24 info35 rfl (Nat.succ_pos 5) (by decide) (d.take k) (some ad) k c2 (d.take k) k rfl HTL.out rfl rfl (by have h := Kd.C_take (m := k) HCD.out (by have := HKD.out; omega); rw [HTL.out] at h; exact ReadsRow.imp_ h HO8.below (fun _ _ h => h)) (fun _ _ h => h) (by have := HK12.out; simp; omega) ?_; intro A9 c9 W9 HO9; clear HO8))
      | ((refine ev_rows_step (d := Kd.old k35 W5) 0 HO9 rfl (by rfl) (.tmp 65) (.tmp 69) 24 (.agg #[.slice none 0 0, .slice none 0 0, .int .i64 0, .int .i64 0, .int .i64 0, .int .i64 0]) 80 rfl Try.underlying24 info35 rfl (Nat.succ_pos 5) (by decide) (d.drop (k + 1)) _ (d.length - (k + 1)) _ (d.take k ++ d.drop (k + 1)) (d.length - 1) rfl HRL.out rfl rfl (by have h := Kd.C_drop (c := c2) (m := k + 1) HCD.out (by have := HKD.out; omega) HC2.out; rw [HDL.out] at h; exact ReadsRow.imp_ h HO9.below (fun _ _ h => h)) (fun _ _ h => h) (by have := HK12.out; have := HTL.out; omega) ?_; intro A10 c10 W10 HO10; clear HO9)))
    have hCR := Kd.C_old (HO10.row_sl 0 rfl).2.2 HO10.below
    have hlR := (HO10.row_sl 0 rfl).2.1
    clear e0 e1 e2 e3 e4 e5
    have HBW2 := Aside0.mk HO10.below
    clear HO10
    have HO := Own.start W10
    have e0 : ((k : Int) ≤ (c5 : Int)) = True := eq_true (by have := HC5.out; have := HKD.out; omega)
    have e1 : (k ≤ c5) = True := eq_true (by have := HC5.out; have := HKD.out; omega)
    have e2 : ((k : Int) + 1 ≤ (d.length : Int)) = True := eq_true (by have := HKD.out; omega)
    have e3 : (k + 1 ≤ d.length) = True := eq_true (by have := HKD.out; omega)
    have e4 : ((d.length : Int) ≤ (c5 : Int)) = True := eq_true (by have := HC5.out; omega)
    have e5 : (0 ≤ (k : Int) + 1) = True := eq_true (by omega)
    have HTP := Aside0.mk (show (ps.take k).length = k by rw [List.length_take]; have := HKD.out; have := HLN.out; omega)
    have HDP := Aside0.mk (show (ps.drop (k + 1)).length = d.length - (k + 1) by rw [List.length_drop, HLN.out])
    have HRP := Aside0.mk (show (ps.take k ++ ps.drop (k + 1)).length = d.length - 1 by rw [List.length_append, HTP.out, HDP.out]; have := HKD.out; omega)
    have HFR := Aside0.mk (show placesF (d.take k ++ d.drop (k + 1)) = ps.take k ++ ps.drop (k + 1) by rw [placesF_rest HDR.out (Nat.le_trans HLE.out (by decide)) k HKD.out (by rw [HX.out]; exact List.eq_nil_of_length_eq_zero (by have := HN.out; omega)) (by rw [HX.out]; exact HZ.out), HP.out])
    obtain ⟨ad5, hA5, -⟩ := HCP.out.2.2 (by have := HKD.out; have := HLN.out; omega)
    subst hA5
    have hPR := rest_calls HRL.out hCR hlR HFR.out
    clear hCR hlR
    go_upto_region 13 with fail
    refine wp_region_any (by kernel_rfl) ?_
    try (change wpAny _ _ _ _ _ _ _ (World.drew _))
    refine wpAny_take (i := 0) (v := ?_) rfl (by kernel_rfl) (by kernel_rfl) (by kernel_rfl) (fun _ _ _ h => h) (Or.inl ⟨by rfl, ?_⟩) ?_
    rotate_left
    · (intro w; go_simp) <;> with_reducible rfl
    go_simp
    refine wpAny_take (i := 1) (v := ?_) rfl (by kernel_rfl) (by kernel_rfl) (by kernel_rfl) (fun _ _ _ h => h) (Or.inl ⟨by rfl, ?_⟩) ?_
    rotate_left
    · (intro w; go_simp) <;> with_reducible rfl
    go_simp
    refine wpAny_take (i := 2) (v := ?_) rfl (by kernel_rfl) (by kernel_rfl) (by kernel_rfl) (fun _ _ _ h => h) (Or.inl ⟨by rfl, ?_⟩) ?_
    rotate_left
    · (intro w; go_simp) <;> with_reducible rfl
    go_simp
    refine wpAny_take (i := 5) (v := ?_) rfl (by kernel_rfl) (by kernel_rfl) (by kernel_rfl) (fun _ _ _ h => h) (Or.inl ⟨by rfl, ?_⟩) ?_
    rotate_left
    · (intro w; go_simp) <;> with_reducible rfl
    go_simp
    refine wpAny_take (i := 6) (v := ?_) rfl (by kernel_rfl) (by kernel_rfl) (by kernel_rfl) (fun _ _ _ h => h) (Or.inl ⟨by rfl, ?_⟩) ?_
    rotate_left
    · (intro w; go_simp) <;> with_reducible rfl
    go_simp
    refine wpAny_take (i := 7) (v := ?_) rfl (by kernel_rfl) (by kernel_rfl) (by kernel_rfl) (fun _ _ _ h => h) (Or.inl ⟨by rfl, ?_⟩) ?_
    rotate_left
    · (intro w; go_simp) <;> with_reducible rfl
    go_simp
    refine wpAny_take (i := 9) (v := ?_) rfl (by kernel_rfl) (by kernel_rfl) (by kernel_rfl) (fun _ _ _ h => h) (Or.inl ⟨by rfl, ?_⟩) ?_
    rotate_left
    · (intro w; go_simp) <;> with_reducible rfl
    go_simp
    refine wpAny_take (i := 10) (v := ?_) rfl (by kernel_rfl) (by kernel_rfl) (by kernel_rfl) (fun _ _ _ h => h) (Or.inl ⟨by rfl, ?_⟩) ?_
    rotate_left
    · (intro w; go_simp) <;> with_reducible rfl
    go_simp
    refine wpAny_take (i := 11) (v := ?_) rfl (by kernel_rfl) (by kernel_rfl) (by kernel_rfl) (fun _ _ _ h => h) (Or.inl ⟨by rfl, ?_⟩) ?_
    rotate_left
    · (intro w; go_simp) <;> with_reducible rfl
    go_simp
    refine wpAny_take (i := 12) (v := ?_) rfl (by kernel_rfl) (by kernel_rfl) (by kernel_rfl) (fun _ _ _ h => h) (Or.inl ⟨by rfl, ?_⟩) ?_
    rotate_left
    · (intro w; go_simp) <;> with_reducible rfl
    go_simp
    refine wpAny_ready (rs := [3, 4]) (by kernel_rfl) (by simp) ?_
    refine AllReady.cons rfl (fun K hK => ?_) (AllReady.cons rfl (fun K hK => ?_) AllReady.nil)
    · (go_simp; go_at_call 13; (with_reducible refine (hPR _ HO.drew.below).mono ?_); rintro e W11 ⟨v11, rfl, hR11, hb11⟩; have HO11 := HO.drew.called hb11 hR11; clear HO hR11 hb11 hPR; obtain ⟨A11, c11, he11, hl11, -⟩ := HO11.row_at 0 rfl; rw [HRP.out] at he11 hl11; subst he11)
      try go_simp
      refine hK _ _ ?_
      clear hK K
      try go_simp
      refine wpAny_ready (rs := [4]) (by kernel_rfl) (by simp) ?_
      refine AllReady.cons rfl (fun K hK => ?_) AllReady.nil
      go_simp
      refine hK _ _ ?_
      clear hK K
      try go_simp
      have HO12 := HO11.lit0 (Kd.old k37 W5) 37
      clear HO11
      refine wpAny_ready (rs := [8]) (by kernel_rfl) (by simp) ?_
      refine AllReady.cons rfl (fun K hK => ?_) AllReady.nil
      (refine ev_rows_step (d := Kd.old k37 W5) 1 HO12 rfl (by rfl) (.tmp 75) (.tmp 78) 27 (.agg #[.int .i64 0, .int .i64 0]) 16 rfl Try.underlying27 hinfo37 rfl (Nat.succ_pos 1) (by decide) (ps.take k) (some ad5) k c5 (ps.take k) k rfl HTP.out rfl rfl (by have h := Kd.C_take (m := k) HCP.out (by have := HKD.out; have := HLN.out; omega); rw [HTP.out] at h; exact ReadsRow.imp_ h (below_step HBW2.out HO12.below) (fun _ _ h => h)) (fun _ _ h => h) (by have := HK12.out; simp; omega) ?_; intro A13 c13 W13 HO13; clear HO12)
      try go_simp
      refine hK _ _ ?_
      clear hK K
      try go_simp
      refine wpAny_ready (rs := [13]) (by kernel_rfl) (by simp) ?_
      refine AllReady.cons rfl (fun K hK => ?_) AllReady.nil
      (refine ev_rows_step (d := Kd.old k37 W5) 1 HO13 rfl (by rfl) (.tmp 79) (.tmp 83) 27 (.agg #[.int .i64 0, .int .i64 0]) 16 rfl Try.underlying27 hinfo37 rfl (Nat.succ_pos 1) (by decide) (ps.drop (k + 1)) _ (d.length - (k + 1)) _ (ps.take k ++ ps.drop (k + 1)) (d.length - 1) rfl HRP.out rfl rfl (by have h := Kd.C_drop (c := c5) (m := k + 1) HCP.out (by have := HKD.out; have := HLN.out; omega) (by rw [HLN.out]; exact HC5.out); rw [HDP.out] at h; exact ReadsRow.imp_ h (below_step HBW2.out HO13.below) (fun _ _ h => h)) (fun _ _ h => h) (by have := HK12.out; have := HTP.out; omega) ?_; intro A14 c14 W14 HO14; clear HO13; obtain ⟨-, hl11, hC11⟩ := HO14.row_sl 0 rfl; obtain ⟨-, hl14, hC14⟩ := HO14.row_sl 1 rfl; have hSM := same_calls HRP.out hC11 hl11 hC14 (by rw [HRP.out]; exact Nat.le_refl _) hl14 (List.take_of_length_le (by rw [HRP.out]; exact Nat.le_refl _)) (by have := HK12.out; omega); clear hl11 hC11 hl14 hC14)
      try go_simp
      refine hK _ _ ?_
      clear hK K
      try go_simp
      refine wpAny_ready (rs := [14]) (by kernel_rfl) (by simp) ?_
      refine AllReady.cons rfl (fun K hK => ?_) AllReady.nil
      (go_simp; go_at_call 12; (with_reducible refine hSM.mono ?_); rintro e W15 ⟨rfl, hb15⟩; have HO15 := HO14.grow hb15; clear HO14 hb15 hSM)
      try go_simp
      refine hK _ _ ?_
      clear hK K
      try go_simp
      refine wpAny_take (i := 15) (v := ?_) rfl (by kernel_rfl) (by kernel_rfl) (by kernel_rfl) (fun _ _ _ h => h) (Or.inl ⟨by rfl, ?_⟩) ?_
      rotate_left
      · (intro w; go_simp) <;> with_reducible rfl
      go_simp
      refine wpAny_take (i := 16) (v := ?_) rfl (by kernel_rfl) (by kernel_rfl) (by kernel_rfl) (fun _ _ _ h => h) (Or.inl ⟨by rfl, ?_⟩) ?_
      rotate_left
      · (intro w; go_simp) <;> with_reducible rfl
      go_simp
      refine wpAny_done (by kernel_rfl) ?_ _
      go_wp2
      all_goals (go_ret; exact ⟨rfl, below_step (below_step HBW.out.below HBW2.out) HO15.below⟩)
    · go_simp
      refine hK _ _ ?_
      clear hK K
      try go_simp
      have HO4 := (HO.lit0 (Kd.old k37 W5) 37).drew
      refine wpAny_ready (rs := [3]) (by kernel_rfl) (by simp) ?_
      refine AllReady.cons rfl (fun K hK => ?_) AllReady.nil
      (go_simp; go_at_call 13; (with_reducible refine (hPR _ HO4.below).mono ?_); rintro e W11 ⟨v11, rfl, hR11, hb11⟩; have HO11 := HO4.called hb11 hR11; clear HO HO4 hR11 hb11 hPR; obtain ⟨A11, c11, he11, hl11, -⟩ := HO11.row_at 1 rfl; rw [HRP.out] at he11 hl11; subst he11)
      try go_simp
      refine hK _ _ ?_
      clear hK K
      try go_simp
      have HO12 := HO11
      clear HO11
      refine wpAny_ready (rs := [8]) (by kernel_rfl) (by simp) ?_
      refine AllReady.cons rfl (fun K hK => ?_) AllReady.nil
      (refine ev_rows_step (d := Kd.old k37 W5) 0 HO12 rfl (by rfl) (.tmp 75) (.tmp 78) 27 (.agg #[.int .i64 0, .int .i64 0]) 16 rfl Try.underlying27 hinfo37 rfl (Nat.succ_pos 1) (by decide) (ps.take k) (some ad5) k c5 (ps.take k) k rfl HTP.out rfl rfl (by have h := Kd.C_take (m := k) HCP.out (by have := HKD.out; have := HLN.out; omega); rw [HTP.out] at h; exact ReadsRow.imp_ h (below_step HBW2.out HO12.below) (fun _ _ h => h)) (fun _ _ h => h) (by have := HK12.out; simp; omega) ?_; intro A13 c13 W13 HO13; clear HO12)
      try go_simp
      refine hK _ _ ?_
      clear hK K
      try go_simp
      refine wpAny_ready (rs := [13]) (by kernel_rfl) (by simp) ?_
      refine AllReady.cons rfl (fun K hK => ?_) AllReady.nil
      (refine ev_rows_step (d := Kd.old k37 W5) 0 HO13 rfl (by rfl) (.tmp 79) (.tmp 83) 27 (.agg #[.int .i64 0, .int .i64 0]) 16 rfl Try.underlying27 hinfo37 rfl (Nat.succ_pos 1) (by decide) (ps.drop (k + 1)) _ (d.length - (k + 1)) _ (ps.take k ++ ps.drop (k + 1)) (d.length - 1) rfl HRP.out rfl rfl (by have h := Kd.C_drop (c := c5) (m := k + 1) HCP.out (by have := HKD.out; have := HLN.out; omega) (by rw [HLN.out]; exact HC5.out); rw [HDP.out] at h; exact ReadsRow.imp_ h (below_step HBW2.out HO13.below) (fun _ _ h => h)) (fun _ _ h => h) (by have := HK12.out; have := HTP.out; omega) ?_; intro A14 c14 W14 HO14; clear HO13; obtain ⟨-, hl11, hC11⟩ := HO14.row_sl 1 rfl; obtain ⟨-, hl14, hC14⟩ := HO14.row_sl 0 rfl; have hSM := same_calls HRP.out hC11 hl11 hC14 (by rw [HRP.out]; exact Nat.le_refl _) hl14 (List.take_of_length_le (by rw [HRP.out]; exact Nat.le_refl _)) (by have := HK12.out; omega); clear hl11 hC11 hl14 hC14)
      try go_simp
      refine hK _ _ ?_
      clear hK K
      try go_simp
      refine wpAny_ready (rs := [14]) (by kernel_rfl) (by simp) ?_
      refine AllReady.cons rfl (fun K hK => ?_) AllReady.nil
      (go_simp; go_at_call 12; (with_reducible refine hSM.mono ?_); rintro e W15 ⟨rfl, hb15⟩; have HO15 := HO14.grow hb15; clear HO14 hb15 hSM)
      try go_simp
      refine hK _ _ ?_
      clear hK K
      try go_simp
      refine wpAny_take (i := 15) (v := ?_) rfl (by kernel_rfl) (by kernel_rfl) (by kernel_rfl) (fun _ _ _ h => h) (Or.inl ⟨by rfl, ?_⟩) ?_
      rotate_left
      · (intro w; go_simp) <;> with_reducible rfl
      go_simp
      refine wpAny_take (i := 16) (v := ?_) rfl (by kernel_rfl) (by kernel_rfl) (by kernel_rfl) (fun _ _ _ h => h) (Or.inl ⟨by rfl, ?_⟩) ?_
      rotate_left
      · (intro w; go_simp) <;> with_reducible rfl
      go_simp
      refine wpAny_done (by kernel_rfl) ?_ _
      go_wp2
      all_goals (go_ret; exact ⟨rfl, below_step (below_step HBW.out.below HBW2.out) HO15.below⟩)
theorem u8_wf_ {a : Int} (h : (Lit.int .u8 a).wf = true) : 0 ≤ a ∧ a ≤ 255 := by
  simpa [Lit.wf, IntKind.min, IntKind.max, IntKind.signed, IntKind.bits] using h
theorem attachBehind_walk (A : Option Addr) (c n : Nat) (l : List (List Int)) (w : World) (hn : n = l.length) (hr : Kd.C (Kd.slice 3 (Kd.int .i64)) w A l.length l) (hc : n ≤ c) (b : Int) (hb : (Lit.int .u8 b).wf = true) :
    Calls Try.prog 7 #[.slice A n c, .int .u8 b] w fun e w' => e = .returned (.bool true) ∧ Below w.heap.size w w' := by
  subst hn
  exact attachBehind_calls A c l b w hr hc (u8_wf_ hb).1 (u8_wf_ hb).2
end Go.Proofs.Ytnnkbcgoockniaa.Q

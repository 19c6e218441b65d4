/- The reference's Places: it tells what attach.Places tells. -/
import Derived.Test.YtnnkbcgoockniaaC
import Derived.Test.YtnnkbcgoockniaaQx6
namespace Go.Proofs.Ytnnkbcgoockniaa.Q
open Go.RowKit Go.Shelf Go.Proofs.YtnnkbcgoockniaaW.PrintWords Go.Proofs.YtnnkbcgoockniaaW.PrintLast Go.Proofs.YtnnkbcgoockniaaW.PrintMore
set_option linter.unusedSimpArgs false
set_option linter.unusedVariables false

theorem hw64 {x : Int} (h1 : -9223372036854775808 ≤ x) (h2 : x ≤ 9223372036854775807) : wrap64 x = x := by
  unfold wrap64
  omega
def sm (x : Int) : Bool := decide (-1048576 ≤ x) && decide (x ≤ 1048576)
theorem Small_some (x : Int) : abugidaref01_Small.f x = some (sm x) := by
  unfold abugidaref01_Small.f sm
  by_cases h : x ≥ -1048576
  · rw [if_pos h, decide_eq_true h]; rfl
  · rw [if_neg h, decide_eq_false h]; rfl
theorem smallB_sm (x y : Int) : smallB x y = (sm x && sm y) := by
  rw [Bool.eq_iff_iff, smallB_iff]
  simp [sm]
theorem right_loop (f0 : List (List S85)) (xs : List S33) (a b c e : Int) (hm : xs.length ≤ 9223372036854775807) : ∀ (d i : Nat), i + d = xs.length → Ev (fun k => abugidaref19_right.l0 k (i : Int) f0 xs a b c e) (!(xs.drop i).any farB && (sm b && (sm c && sm e)))
  | 0, i, h => by
    rw [List.drop_eq_nil_of_le (by omega)]
    refine Ev.step (fun k => by simp only [abugidaref19_right.l0]; exact rfl) ?_
    refine Ev.congr (fun k => ?_) (Ev.now _)
    rw [if_neg (by omega), Small_some, Small_some, Small_some]
    simp only [Option.bind_some, List.any_nil, Bool.not_false, Bool.true_and]
    cases sm b <;> cases sm c <;> simp
  | d + 1, i, h => by
    have hi : i < xs.length := by omega
    have hd : xs.drop i = xs.getD i z33 :: xs.drop (i + 1) := by rw [List.drop_eq_getElem_cons hi, List.getD_eq_getElem?_getD, List.getElem?_eq_getElem hi]; rfl
    have ih := right_loop f0 xs a b c e hm d (i + 1) (by omega)
    refine Ev.step (fun k => by simp only [abugidaref19_right.l0]; exact rfl) ?_
    refine Ev.congr (fun k => by rw [if_pos (by omega), if_pos (by omega), show rd_T33 xs (i : Int) = xs.getD i z33 from rfl, Small_some, Option.bind_some, Small_some, hw64 (x := (i : Int) + 1) (by omega) (by omega)]) ?_
    rw [hd, List.any_cons]
    have hf : farB (xs.getD i z33) = !(sm (xs.getD i z33).f1 && sm (xs.getD i z33).f2) := by rw [farB, smallB_sm]
    cases h1 : sm (xs.getD i z33).f1 with
    | false =>
      rw [hf, h1]
      refine Ev.congr (fun k => ?_) (Ev.now _)
      rw [if_neg (by decide)]
      simp
    | true =>
      cases h2 : sm (xs.getD i z33).f2 with
      | false =>
        rw [hf, h1, h2]
        refine Ev.congr (fun k => ?_) (Ev.now _)
        rw [if_pos rfl, Option.bind_some, if_neg (by decide)]
        simp
      | true =>
        rw [hf, h1, h2]
        refine Ev.congr (f := fun k => abugidaref19_right.l0 k ((i + 1 : Nat) : Int) f0 xs a b c e) (fun k => ?_) ?_
        · rw [if_pos rfl, Option.bind_some, if_pos rfl]; rfl
        · simpa using ih
theorem right_ev (d : S35) (hm : d.f1.length ≤ 9223372036854775807) : Ev (fun k => abugidaref19_right.f k d.f0 d.f1 d.f2.f0 d.f2.f1 d.f2.f2 d.f3) (rightB d) := by
  have h := right_loop d.f0 d.f1 d.f2.f0 d.f2.f1 d.f2.f2 d.f3 hm d.f1.length 0 (by omega)
  have e : rightB d = (!(d.f1.drop 0).any farB && (sm d.f2.f1 && (sm d.f2.f2 && sm d.f3))) := by
    rw [rightB, farB, smallB_sm, smallB_sm, List.drop_zero, show sm 0 = true from rfl, Bool.not_not, Bool.and_true, Bool.and_assoc]
  rw [e]
  exact h
theorem own_loop (cl : Int) (f0 : List (List S85)) (xs : List S33) (a b c e : Int) (hm : xs.length ≤ 9223372036854775807) : ∀ (d i : Nat), i + d = xs.length → Ev (fun k => abugidaref19_own.l0 k cl (i : Int) f0 xs a b c e) (match ((xs.drop i).filter (fun a => a.f0 == cl)).head? with | none => (0, 0, 0, false) | some a => (a.f0, a.f1, a.f2, true))
  | 0, i, h => by
    rw [List.drop_eq_nil_of_le (by omega)]
    refine Ev.step (fun k => by simp only [abugidaref19_own.l0]; exact rfl) ?_
    refine Ev.congr (fun k => ?_) (Ev.now _)
    rw [if_neg (by omega)]
    rfl
  | d + 1, i, h => by
    have hi : i < xs.length := by omega
    have hd : xs.drop i = xs.getD i z33 :: xs.drop (i + 1) := by rw [List.drop_eq_getElem_cons hi, List.getD_eq_getElem?_getD, List.getElem?_eq_getElem hi]; rfl
    have ih := own_loop cl f0 xs a b c e hm d (i + 1) (by omega)
    refine Ev.step (fun k => by simp only [abugidaref19_own.l0]; exact rfl) ?_
    refine Ev.congr (fun k => by rw [if_pos (by omega), if_pos (by omega), show rd_T33 xs (i : Int) = xs.getD i z33 from rfl, hw64 (x := (i : Int) + 1) (by omega) (by omega)]) ?_
    rw [hd, List.filter_cons]
    by_cases hc : (xs.getD i z33).f0 = cl
    · rw [if_pos (beq_iff_eq.mpr hc)]
      refine Ev.congr (fun k => ?_) (Ev.now _)
      rw [if_pos hc]
      rfl
    · rw [if_neg (by rw [beq_eq_false_iff_ne.mpr hc]; decide)]
      refine Ev.congr (f := fun k => abugidaref19_own.l0 k cl ((i + 1 : Nat) : Int) f0 xs a b c e) (fun k => ?_) ih
      rw [if_neg hc]
      rfl
theorem carrier_loop (l : List S35) (at_ : Nat) (hat : at_ < l.length) (hl : l.length ≤ 200) (hm : ∀ j, (l.getD j z35).f1.length ≤ 9223372036854775807) : ∀ (j : Nat), j ≤ at_ → Ev (fun k => abugidaref19_Carrier.l0 k l (at_ : Int) ((j : Int) - 1)) (match (backs l (l.getD at_ z35).f2.f0 j).head? with | none => (-1, 0, 0, 0) | some x => ((x.1 : Int), x.2.f0, x.2.f1, x.2.f2))
  | 0, h => by
    refine Ev.step (fun k => by simp only [abugidaref19_Carrier.l0]; exact rfl) ?_
    refine Ev.congr (fun k => ?_) (Ev.now _)
    rw [if_neg (by omega)]
    rfl
  | j + 1, h => by
    have ih := carrier_loop l at_ hat hl hm j (by omega)
    have ho := own_loop (l.getD at_ z35).f2.f0 (l.getD j z35).f0 (l.getD j z35).f1 (l.getD j z35).f2.f0 (l.getD j z35).f2.f1 (l.getD j z35).f2.f2 (l.getD j z35).f3 (hm j) (l.getD j z35).f1.length 0 (by omega)
    have e1 : ((j + 1 : Nat) : Int) - 1 = (j : Int) := by omega
    rw [e1]
    refine Ev.step (fun k => by simp only [abugidaref19_Carrier.l0]; exact rfl) ?_
    refine Ev.congr (fun k => by rw [if_pos (by omega), if_pos (by omega), if_pos (by omega), if_pos (by omega), if_pos (by omega), show rd_T35 l (j : Int) = l.getD j z35 from rfl, show rd_T35 l (at_ : Int) = l.getD at_ z35 from rfl, hw64 (x := (j : Int) - 1) (by omega) (by omega)]) ?_
    refine Ev.bind (g := fun k => abugidaref19_own.f k (l.getD j z35).f0 (l.getD j z35).f1 (l.getD j z35).f2.f0 (l.getD j z35).f2.f1 (l.getD j z35).f2.f2 (l.getD j z35).f3 (l.getD at_ z35).f2.f0) ho ?_
    rw [List.drop_zero]
    simp only [backs]
    cases hf : (l.getD j z35).f1.filter (fun a => a.f0 == (l.getD at_ z35).f2.f0) with
    | nil =>
      refine Ev.congr (f := fun k => abugidaref19_Carrier.l0 k l (at_ : Int) ((j : Int) - 1)) (fun k => rfl) ?_
      simpa using ih
    | cons a t =>
      exact Ev.congr (fun k => rfl) (Ev.now _)
theorem carrier_ev (l : List S35) (k : Nat) (hk : k < l.length) (hl : l.length ≤ 200) (hm : ∀ j, (l.getD j z35).f1.length ≤ 9223372036854775807) : Ev (fun n => abugidaref19_Carrier.f n l (k : Int)) (if (l.getD k z35).f2.f0 = 0 then (-1, 0, 0, 0) else match (backs l (l.getD k z35).f2.f0 k).head? with | none => (-1, 0, 0, 0) | some x => ((x.1 : Int), x.2.f0, x.2.f1, x.2.f2)) := by
  unfold abugidaref19_Carrier.f
  refine Ev.congr (fun n => by rw [if_pos (by omega), if_pos (by omega), show rd_T35 l (k : Int) = l.getD k z35 from rfl, hw64 (x := (k : Int) - 1) (by omega) (by omega)]) ?_
  by_cases hz : (l.getD k z35).f2.f0 = 0
  · rw [if_pos hz]
    refine Ev.congr (fun n => ?_) (Ev.now _)
    rw [if_pos hz]
  · rw [if_neg hz]
    refine Ev.congr (fun n => ?_) (carrier_loop l k hk hl hm k (Nat.le_refl _))
    rw [if_neg hz]
theorem placesN_take (l : List S35) (m : Nat) : ∀ k, k ≤ m → placesN (l.take m) k = placesN l k
  | 0, _ => rfl
  | k + 1, h => by
    have e : (l.take m).getD k z35 = l.getD k z35 := by simp [List.getD_eq_getElem?_getD, List.getElem?_take, show k < m by omega]
    simp only [placesN]
    rw [placesN_take l m k (by omega)]
    unfold place1 pen1
    rw [e, backs_take l _ m k (by omega)]
theorem placesN_bound2 (l : List S35) (k : Nat) (hk : k ≤ l.length) (hr : ∀ j, j < k → rightB (l.getD j z35) = true) : (-(2097152 * (k : Int)) ≤ (placesN l k).2 ∧ (placesN l k).2 ≤ 2097152 * k) ∧
    ∀ p ∈ (placesN l k).1, (-(2097152 * (k : Int)) ≤ p.f0 ∧ p.f0 ≤ 2097152 * k) ∧ (-(2097152 * (k : Int)) ≤ p.f1 ∧ p.f1 ≤ 2097152 * k) := by
  have h := placesN_bound (l.take k) (fun d hd => by
    obtain ⟨j, hj, rfl⟩ := List.getElem_of_mem hd
    rw [List.length_take] at hj
    have h2 := hr j (by omega)
    rw [List.getD_eq_getElem?_getD, List.getElem?_eq_getElem (by omega)] at h2
    rw [List.getElem_take]
    exact h2) k (by rw [List.length_take]; omega)
  rw [placesN_take l k k (Nat.le_refl _)] at h
  exact h

set_option maxRecDepth 100000 in
set_option maxHeartbeats 4000000 in
theorem refplaces_calls (A : Option Addr) (c : Nat) (l : List S35) (w : World) (hr : Kd.C k35 w A l.length l) (hc : l.length ≤ c) :
    Calls Try.prog 14 #[.slice A l.length c] w fun e w' => ∃ v, e = .returned v ∧ Kd.R k37 37 w' w.heap.size (fun _ => True) v (placesF l) ∧ Below w.heap.size w w' := by
  have HR := Aside0.mk hr
  have HC := Aside0.mk hc
  have hlm : (l.length : Int) ≤ 9223372036854775807 := by have := Kd.C_max hr; omega
  have HO := Own.start w
  by_cases h200 : 200 < l.length
  · have hb : (200 : Int) < (l.length : Int) := by omega
    have HF := Aside0.mk (show placesF l = [] by unfold placesF; rw [if_pos h200])
    clear h200 hr hc
    go_enter Try.func14, Try.ntmps14
    go_wp2
    go_ret
    exact ⟨_, rfl, by rw [HF.out]; exact Kd.R_nil _ _ _ _ _, HO.below⟩
  · have hb : ¬ (200 : Int) < (l.length : Int) := by omega
    have H200 := Aside0.mk h200
    have HOR := HO.newrow k37 37
    have HMX := Aside0.mk (show ∀ j, (l.getD j z35).f1.length ≤ 9223372036854775807 from fun j => by
      by_cases hj : j < l.length
      · obtain ⟨ad, A0, c0, A1, c1, _, _, _, _, _, _, _, _, _, _, y3⟩ := at_T35 hr (j : Int) (by omega) (by omega)
        exact Kd.C_max y3
      · rw [List.getD_eq_getElem?_getD, List.getElem?_eq_none (by omega)]; exact Nat.zero_le _)
    clear hr hc HO
    go_enter Try.func14, Try.ntmps14
    go_wp2
    clear h200 hb
    go_loopw [3, 4, 5] (fun v3 v4 v5 w' => ∃ (k : Nat) (pen : Int) (out : List S37) (A3 : Option Addr) (c3 : Nat), v5 = .int .i64 k ∧ v4 = .int .i64 pen ∧ v3 = .slice A3 k c3 ∧ Aside0 (k ≤ l.length) ∧ Aside0 (placesN l k = (out, pen)) ∧ Aside0 (∀ j, j < k → rightB (l.getD j z35) = true) ∧ Aside0 (Own w w' [.row k37 37 w.heap.size (.slice A3 k c3) out])) (fun _ _ v5 _ => l.length - (intOf v5).toNat)
    case atStart => exact ⟨0, 0, [], none, 0, rfl, rfl, rfl, ⟨Nat.zero_le _⟩, ⟨rfl⟩, ⟨fun j hj => by omega⟩, ⟨HOR⟩⟩
    case round =>
      clear HOR
      obtain ⟨k, pen, out, A3, c3, rfl, rfl, rfl, HK, HP, HRT0, HOO⟩ := hrel
      have HO := HOO.out
      clear HOO
      by_cases hlt : k < l.length
      · obtain ⟨ad, A0, c0, A1, c1, rfl, x0, x1, x2, x3, x4, x5, y0, y1, y2, y3⟩ := at_T35 HR.out (k : Int) (by omega) (by omega)
        rw [show rd_T35 l (k : Int) = l.getD k z35 from rfl] at x0 x1 x2 x3 x4 x5 y0 y1 y2 y3
        rw [Int.toNat_natCast] at x0 x1 x2 x3 x4 x5
        have hln := placesN_length l k
        rw [HP.out] at hln
        have HLN := Aside0.mk (show out.length = k ∧ k < 200 ∧ k < l.length by have := H200.out; exact ⟨hln, by omega, hlt⟩)
        obtain ⟨kr, hkr⟩ := Ev.rounds (right_ev (l.getD k z35) (HMX.out k))
        obtain ⟨kc, hkc⟩ := Ev.rounds (carrier_ev l k hlt (by have := H200.out; omega) HMX.out)
        have HS := Aside0.mk (show placesN l (k + 1) = (out ++ [place1 l out pen k], pen1 l pen k) by rw [show placesN l (k + 1) = ((placesN l k).1 ++ [place1 l (placesN l k).1 (placesN l k).2 k], pen1 l (placesN l k).2 k) from rfl, HP.out])
        have HRC := Aside0.mk (fun w' (hb : Below w.heap.size w w') => abugidaref19_right.calls kr A0 c0 (l.getD k z35).f0 A1 c1 (l.getD k z35).f1 _ _ _ _ _ w' (Kd.C_below y1 hb) y0 (Kd.C_below y3 hb) y2 hkr)
        have HCK := Aside0.mk hkc
        have hpl : place1 l out pen k = if (l.getD k z35).f2.f0 = 0 then ⟨pen, 0⟩ else match (backs l (l.getD k z35).f2.f0 k).head? with | none => ⟨pen, 0⟩ | some x => ⟨(out.getD x.1 z37).f0 + x.2.f1 - (l.getD k z35).f2.f1, (out.getD x.1 z37).f1 + x.2.f2 - (l.getD k z35).f2.f2⟩ := rfl
        have hpn : pen1 l pen k = if (l.getD k z35).f2.f0 = 0 then pen + (l.getD k z35).f3 else pen := rfl
        have hlast : rightB (l.getD k z35) = true → ∀ j, j < k + 1 → rightB (l.getD j z35) = true := fun h j hj => by
          rcases Nat.lt_or_ge j k with h2 | h2
          · exact HRT0.out j h2
          · rwa [show j = k by omega]
        have hbd : rightB (l.getD k z35) = true → _ := fun h => placesN_bound2 l (k + 1) (by omega) (hlast h)
        have hbd0 := placesN_bound2 l k (by omega) HRT0.out
        have hmem : l.getD k z35 ∈ l := by rw [List.getD_eq_getElem?_getD, List.getElem?_eq_getElem hlt]; exact List.getElem_mem _
        have HX := Aside0.mk (And.intro x0 (And.intro x1 (And.intro x2 (And.intro x3 (And.intro x4 x5)))))
        clear y0 y1 y2 y3 hkr hkc
        obtain ⟨d, hd⟩ : ∃ d, l.getD k z35 = d := ⟨_, rfl⟩
        have HD := Aside0.mk hd
        rw [hd] at x0 x1 x2 x3 x4 x5 HRC hpl hpn HX hlast hbd HCK hmem
        clear hd
        replace x0 := pw_cell_below HO.below x0
        replace x1 := pw_cell_below HO.below x1
        replace x2 := pw_cell_below HO.below x2
        replace x3 := pw_cell_below HO.below x3
        replace x4 := pw_cell_below HO.below x4
        replace x5 := pw_cell_below HO.below x5
        have p1 : (0 ≤ (k : Int)) = True := eq_true (by omega)
        have q1 : ((k : Int) < (l.length : Int)) = True := eq_true (by omega)
        have hkb : (k : Int) + 1 ≤ 200 := by have := HLN.out; omega
        have HLB := Aside0.mk hbd
        have HLA := Aside0.mk hlast
        have HB0 := Aside0.mk hbd0
        have HME := Aside0.mk hmem
        have HPL := Aside0.mk hpl
        have HPN := Aside0.mk hpn
        clear hlt hln hbd hlast hbd0 hmem hpl hpn
        cases hrt : rightB d with
        | false =>
          have HRT := Aside0.mk hrt
          have HF := Aside0.mk (show placesF l = [] by
            unfold placesF
            rw [if_neg H200.out, if_pos]
            exact List.any_eq_true.mpr ⟨d, HME.out, by rw [hrt]; rfl⟩)
          clear hrt
          go_wp2_with (go_at_call 22; (with_reducible refine (HRC.out _ HO.below).mono ?_); rintro e w1 ⟨rfl, hb⟩; have HO1 := HO.grow hb; clear HO x0 x1 x2 x3 x4 x5; rw [HRT.out])
          go_ret
          exact ⟨_, rfl, by rw [HF.out]; exact Kd.R_nil _ _ _ _ _, HO1.below⟩
        | true =>
          have HRT := Aside0.mk hrt
          have HRU := Aside0.mk (HLA.out hrt)
          obtain ⟨⟨b1, b2⟩, b3⟩ := HLB.out hrt
          obtain ⟨s1, ⟨⟨s2, s3⟩, s4, s5⟩, s6, s7⟩ := right_small hrt
          obtain ⟨⟨t1, t2⟩, t3⟩ := HB0.out
          rw [HP.out] at t1 t2 t3
          dsimp only at t1 t2 t3
          have HT3 := Aside0.mk t3
          clear hrt s1 b1 b2 b3 t3
          by_cases hz : d.f2.f0 = 0
          · have hzb : (d.f2.f0 == 0) = true := beq_iff_eq.mpr hz
            have hck := HCK.out
            rw [if_pos hz] at hck
            have HCC := Aside0.mk (fun w' (hb : Below w.heap.size w w') => abugidaref19_Carrier.calls kc (some ad) c l (k : Int) _ _ _ _ w' (Kd.C_below HR.out hb) HC.out hck)
            have HPP := Aside0.mk (show placesN l (k + 1) = (out ++ [⟨pen, 0⟩], pen + d.f3) by rw [HS.out, HPL.out, HPN.out, if_pos hz, if_pos hz])
            have wb1 : -9223372036854775808 ≤ pen + d.f3 := by omega
            have wb2 : pen + d.f3 ≤ 9223372036854775807 := by omega
            clear hz hck s2 s3 s4 s5 s6 s7 t1 t2
            go_wp2_with (first
              | (go_at_call 22; (with_reducible refine (HRC.out _ HO.below).mono ?_); rintro e w1 ⟨rfl, hb⟩; have HO1 := HO.grow hb; clear HO x0 x1 x2 x3 x4 x5; rw [HRT.out])
              | ((with_reducible refine gate_dst (N := 6) rfl ?_); refine ev_box (N := 6) (cs := #[.int .i64 0, .int .i64 0]) (t := 37) HO1 rfl rfl ?hr ?_; (case hr => first | (go_simp; done) | (go_simp; rfl)); intro g6 W2 HO2 hb2; clear HO1 hb2)
              | ((with_reducible refine gate_store (t := 37) (p := 6) rfl ?_); refine ev_store (cs' := #[.int .i64 pen, .int .i64 0]) (.agg #[.int .i64 pen, .int .i64 0]) 1 HO2 rfl rfl rfl rfl 0 rfl rfl sz37 (by simp [Value.oneCell', Value.cells]) (Nat.le_refl _) rfl ?_; intro W3 HO3; clear HO2)
              | (go_at_call 23; (with_reducible refine (HCC.out _ HO3.below).mono ?_); rintro e w4 ⟨rfl, hb⟩; have HO4 := HO3.grow hb; clear HO3)
              | ((with_reducible refine gate_dst (N := 8) rfl ?_); refine ev_box (N := 8) (cs := #[.int .i64 0, .int .i64 0, .int .i64 0]) (t := 33) HO4 rfl rfl ?hr ?_; (case hr => first | (go_simp; done) | (go_simp; rfl)); intro g8 W5 HO5 hb5; clear HO4 hb5)
              | ((with_reducible refine gate_store (t := 33) (p := 8) rfl ?_); refine ev_store (cs' := #[.int .i64 0, .int .i64 0, .int .i64 0]) (.agg #[.int .i64 0, .int .i64 0, .int .i64 0]) 2 HO5 rfl rfl rfl rfl 0 rfl rfl sz33 (by simp [Value.oneCell', Value.cells]) (Nat.le_refl _) rfl ?_; intro W6 HO6; clear HO5; have z0 := HO6.box_cell 1 rfl 0 rfl; have z1 := HO6.box_cell 1 rfl 1 rfl; have z2 := HO6.box_cell 2 rfl 1 rfl; have z3 := HO6.box_cell 2 rfl 2 rfl; have x2 := pw_cell_below HO6.below HX.out.2.2.1; have x3 := pw_cell_below HO6.below HX.out.2.2.2.1; have x4 := pw_cell_below HO6.below HX.out.2.2.2.2.1; have x5 := pw_cell_below HO6.below HX.out.2.2.2.2.2)
              | ((with_reducible refine gate_builtin (b := .append) (xs := #[.tmp 65, .tmp 67]) rfl ?_); at_builtin; refine ev_append 0 HO6 rfl rfl (.tmp 65) (.tmp 67) 27 (.agg #[.int .i64 0, .int .i64 0]) 16 rfl Try.underlying27 hinfo37 rfl (by decide) (by decide) (⟨pen, 0⟩ : S37) [.int .i64 pen, .int .i64 0] rfl rfl (k37_mkM _ _ _ _) ?aL ?_; (case aL => have := HLN.out; omega); intro A5 c5 W5 HO5; clear HO6 x2 x3 x4 x5 z0 z1 z2 z3; have HO7 := HO5; clear HO5; have x2 := pw_cell_below HO7.below HX.out.2.2.1; have x3 := pw_cell_below HO7.below HX.out.2.2.2.1; have x4 := pw_cell_below HO7.below HX.out.2.2.2.2.1; have x5 := pw_cell_below HO7.below HX.out.2.2.2.2.2))
            go_roundw
            case rel => exact ⟨k + 1, pen + d.f3, out ++ [⟨pen, 0⟩], A5, c5, by go_num, rfl, by rw [HLN.out.1], ⟨by have := HLN.out; omega⟩, HPP, HRU, ⟨by have h := HO7.upto 1; rw [HLN.out.1] at h; exact h⟩⟩
            case measure => have := HLN.out; simp [intOf]; omega
          · have hzb : (d.f2.f0 == 0) = false := beq_eq_false_iff_ne.mpr hz
            cases hh : (backs l d.f2.f0 k).head? with
            | none =>
              have hck := HCK.out
              rw [if_neg hz, hh] at hck
              have HCC := Aside0.mk (fun w' (hb : Below w.heap.size w w') => abugidaref19_Carrier.calls kc (some ad) c l (k : Int) _ _ _ _ w' (Kd.C_below HR.out hb) HC.out hck)
              have HPP := Aside0.mk (show placesN l (k + 1) = (out ++ [⟨pen, 0⟩], pen) by rw [HS.out, HPL.out, HPN.out, if_neg hz, if_neg hz, hh])
              clear hz hck hh s2 s3 s4 s5 s6 s7 t1 t2
              go_wp2_with (first
                | (go_at_call 22; (with_reducible refine (HRC.out _ HO.below).mono ?_); rintro e w1 ⟨rfl, hb⟩; have HO1 := HO.grow hb; clear HO x0 x1 x2 x3 x4 x5; rw [HRT.out])
                | ((with_reducible refine gate_dst (N := 6) rfl ?_); refine ev_box (N := 6) (cs := #[.int .i64 0, .int .i64 0]) (t := 37) HO1 rfl rfl ?hr ?_; (case hr => first | (go_simp; done) | (go_simp; rfl)); intro g6 W2 HO2 hb2; clear HO1 hb2)
                | ((with_reducible refine gate_store (t := 37) (p := 6) rfl ?_); refine ev_store (cs' := #[.int .i64 pen, .int .i64 0]) (.agg #[.int .i64 pen, .int .i64 0]) 1 HO2 rfl rfl rfl rfl 0 rfl rfl sz37 (by simp [Value.oneCell', Value.cells]) (Nat.le_refl _) rfl ?_; intro W3 HO3; clear HO2)
                | (go_at_call 23; (with_reducible refine (HCC.out _ HO3.below).mono ?_); rintro e w4 ⟨rfl, hb⟩; have HO4 := HO3.grow hb; clear HO3)
                | ((with_reducible refine gate_dst (N := 8) rfl ?_); refine ev_box (N := 8) (cs := #[.int .i64 0, .int .i64 0, .int .i64 0]) (t := 33) HO4 rfl rfl ?hr ?_; (case hr => first | (go_simp; done) | (go_simp; rfl)); intro g8 W5 HO5 hb5; clear HO4 hb5)
                | ((with_reducible refine gate_store (t := 33) (p := 8) rfl ?_); refine ev_store (cs' := #[.int .i64 0, .int .i64 0, .int .i64 0]) (.agg #[.int .i64 0, .int .i64 0, .int .i64 0]) 2 HO5 rfl rfl rfl rfl 0 rfl rfl sz33 (by simp [Value.oneCell', Value.cells]) (Nat.le_refl _) rfl ?_; intro W6 HO6; clear HO5; have z0 := HO6.box_cell 1 rfl 0 rfl; have z1 := HO6.box_cell 1 rfl 1 rfl; have z2 := HO6.box_cell 2 rfl 1 rfl; have z3 := HO6.box_cell 2 rfl 2 rfl; have x2 := pw_cell_below HO6.below HX.out.2.2.1; have x3 := pw_cell_below HO6.below HX.out.2.2.2.1; have x4 := pw_cell_below HO6.below HX.out.2.2.2.2.1; have x5 := pw_cell_below HO6.below HX.out.2.2.2.2.2)
                | ((with_reducible refine gate_builtin (b := .append) (xs := #[.tmp 65, .tmp 67]) rfl ?_); at_builtin; refine ev_append 0 HO6 rfl rfl (.tmp 65) (.tmp 67) 27 (.agg #[.int .i64 0, .int .i64 0]) 16 rfl Try.underlying27 hinfo37 rfl (by decide) (by decide) (⟨pen, 0⟩ : S37) [.int .i64 pen, .int .i64 0] rfl rfl (k37_mkM _ _ _ _) ?aL ?_; (case aL => have := HLN.out; omega); intro A5 c5 W5 HO5; clear HO6 x2 x3 x4 x5 z0 z1 z2 z3; have HO7 := HO5; clear HO5; have x2 := pw_cell_below HO7.below HX.out.2.2.1; have x3 := pw_cell_below HO7.below HX.out.2.2.2.1; have x4 := pw_cell_below HO7.below HX.out.2.2.2.2.1; have x5 := pw_cell_below HO7.below HX.out.2.2.2.2.2))
              go_roundw
              case rel => exact ⟨k + 1, pen, out ++ [⟨pen, 0⟩], A5, c5, by go_num, rfl, by rw [HLN.out.1], ⟨by have := HLN.out; omega⟩, HPP, HRU, ⟨by have h := HO7.upto 1; rw [HLN.out.1] at h; exact h⟩⟩
              case measure => have := HLN.out; simp [intOf]; omega
            | some x =>
              have hck := HCK.out
              rw [if_neg hz, hh] at hck
              have HCC := Aside0.mk (fun w' (hb : Below w.heap.size w w') => abugidaref19_Carrier.calls kc (some ad) c l (k : Int) _ _ _ _ w' (Kd.C_below HR.out hb) HC.out hck)
              have hx := backs_lt l _ k x (List.mem_of_mem_head? hh)
              obtain ⟨q, hq⟩ : ∃ q, out.getD x.1 z37 = q := ⟨_, rfl⟩
              have hqm : q ∈ out := by rw [← hq, List.getD_eq_getElem?_getD, List.getElem?_eq_getElem (by have := HLN.out; omega)]; exact List.getElem_mem _
              obtain ⟨⟨o1, o2⟩, o3, o4⟩ := HT3.out q hqm
              obtain ⟨⟨a1, a2⟩, a3, a4⟩ := (right_small (HRT0.out x.1 hx.1)).1 _ hx.2
              have HPP := Aside0.mk (show placesN l (k + 1) = (out ++ [⟨q.f0 + x.2.f1 - d.f2.f1, q.f1 + x.2.f2 - d.f2.f2⟩], pen) by rw [HS.out, HPL.out, HPN.out, if_neg hz, if_neg hz, hh, ← hq])
              have HQ := Aside0.mk hq
              have HXK := Aside0.mk hx.1
              have xi : (0 : Int) ≤ (x.1 : Int) := by omega
              have hix0 : ∀ (a_ : Addr) (w_ : World), (Instr.indexAt 37 (.pointer (some a_)) (.int .i64 0)).run Try.prog w_ = .ok (.pointer (some a_)) w_ := fun a_ w_ => by kernel_rfl
              have hix1 : ∀ (b_ o_ : Nat) (w_ : World), (Instr.indexAt 37 (.pointer (some ⟨b_, o_, none⟩)) (.int .i64 1)).run Try.prog w_ = .ok (.pointer (some ⟨b_, o_ + 1, none⟩)) w_ := fun b_ o_ w_ => by kernel_rfl
              have HWP := Aside0.mk (show IntKind.i64.wrap (IntKind.i64.wrap (q.f0 + x.2.f1) - d.f2.f1) = q.f0 + x.2.f1 - d.f2.f1 ∧ IntKind.i64.wrap (IntKind.i64.wrap (q.f1 + x.2.f2) - d.f2.f2) = q.f1 + x.2.f2 - d.f2.f2 by
                have h200 := HLN.out
                rw [IntWalk.i64_in (q.f0 + x.2.f1) (by omega), IntWalk.i64_in (q.f1 + x.2.f2) (by omega)]
                exact ⟨IntWalk.i64_in _ (by omega), IntWalk.i64_in _ (by omega)⟩)
              clear hz hck hh s2 s3 s4 s5 s6 s7 t1 t2 hqm hx hq o1 o2 o3 o4 a1 a2 a3 a4
              go_upto_region 13 with (first
                | (go_at_call 22; (with_reducible refine (HRC.out _ HO.below).mono ?_); rintro e w1 ⟨rfl, hb⟩; have HO1 := HO.grow hb; clear HO x0 x1 x2 x3 x4 x5; rw [HRT.out])
                | ((with_reducible refine gate_dst (N := 6) rfl ?_); refine ev_box (N := 6) (cs := #[.int .i64 0, .int .i64 0]) (t := 37) HO1 rfl rfl ?hr ?_; (case hr => first | (go_simp; done) | (go_simp; rfl)); intro g6 W2 HO2 hb2; clear HO1 hb2)
                | ((with_reducible refine gate_store (t := 37) (p := 6) rfl ?_); refine ev_store (cs' := #[.int .i64 pen, .int .i64 0]) (.agg #[.int .i64 pen, .int .i64 0]) 1 HO2 rfl rfl rfl rfl 0 rfl rfl sz37 (by simp [Value.oneCell', Value.cells]) (Nat.le_refl _) rfl ?_; intro W3 HO3; clear HO2)
                | (go_at_call 23; (with_reducible refine (HCC.out _ HO3.below).mono ?_); rintro e w4 ⟨rfl, hb⟩; have HO4 := HO3.grow hb; clear HO3)
                | ((with_reducible refine gate_dst (N := 8) rfl ?_); refine ev_box (N := 8) (cs := #[.int .i64 0, .int .i64 0, .int .i64 0]) (t := 33) HO4 rfl rfl ?hr ?_; (case hr => first | (go_simp; done) | (go_simp; rfl)); intro g8 W5 HO5 hb5; clear HO4 hb5)
                | ((with_reducible refine gate_store (t := 33) (p := 8) rfl ?_); refine ev_store (cs' := #[.int .i64 x.2.f0, .int .i64 x.2.f1, .int .i64 x.2.f2]) (.agg #[.int .i64 x.2.f0, .int .i64 x.2.f1, .int .i64 x.2.f2]) 2 HO5 rfl rfl rfl rfl 0 rfl rfl sz33 (by simp [Value.oneCell', Value.cells]) (Nat.le_refl _) rfl ?_; intro W6 HO6; clear HO5; have z0 := HO6.box_cell 1 rfl 0 rfl; have z1 := HO6.box_cell 1 rfl 1 rfl; have z2 := HO6.box_cell 2 rfl 1 rfl; have z3 := HO6.box_cell 2 rfl 2 rfl; have x2 := pw_cell_below HO6.below HX.out.2.2.1; have x3 := pw_cell_below HO6.below HX.out.2.2.2.1; have x4 := pw_cell_below HO6.below HX.out.2.2.2.2.1; have x5 := pw_cell_below HO6.below HX.out.2.2.2.2.2))
              obtain ⟨A9, c9, he9, hl9, hC9⟩ := HO6.row_at 0 rfl
              injection he9 with e1 e2 e3
              subst e1 e3
              obtain ⟨ad3, rfl, v0, v1⟩ := at_T37 hC9 (x.1 : Int) (by omega) (by have := HLN.out; have := HXK.out; omega)
              rw [show rd_T37 out (x.1 : Int) = out.getD x.1 z37 from rfl, HQ.out] at v0 v1
              rw [Int.toNat_natCast] at v0 v1
              have xk : (x.1 : Int) < (k : Int) := by have := HXK.out; omega
              clear hC9 hl9 e2
              go_still_tail 31, (by kernel_rfl)
              change wpList _ _ _ _ _ W6.drew
              have HOD := HO6.drew
              clear HO6 z0 z1 z2 z3 v0 v1 x2 x3 x4 x5 hix0 hix1
              go_wp2_with (first
                | ((with_reducible refine gate_store (t := 37) (p := 6) rfl ?_); refine ev_store (cs' := #[.int .i64 (q.f0 + x.2.f1 - d.f2.f1), .int .i64 (q.f1 + x.2.f2 - d.f2.f2)]) (.agg #[.int .i64 (q.f0 + x.2.f1 - d.f2.f1), .int .i64 (q.f1 + x.2.f2 - d.f2.f2)]) 1 HOD rfl rfl rfl rfl 0 rfl ?hv sz37 (by simp [Value.oneCell', Value.cells]) (Nat.le_refl _) rfl ?_; (case hv => rw [← HWP.out.1, ← HWP.out.2]; rfl); intro W8 HO8; clear HOD; have z0 := HO8.box_cell 1 rfl 0 rfl; have z1 := HO8.box_cell 1 rfl 1 rfl; have z2 := z0; have z3 := z1; have x2 := pw_cell_below HO8.below HX.out.2.2.1; have x3 := pw_cell_below HO8.below HX.out.2.2.2.1; have x4 := pw_cell_below HO8.below HX.out.2.2.2.2.1; have x5 := pw_cell_below HO8.below HX.out.2.2.2.2.2)
                | ((with_reducible refine gate_builtin (b := .append) (xs := #[.tmp 65, .tmp 67]) rfl ?_); at_builtin; refine ev_append 0 HO8 rfl rfl (.tmp 65) (.tmp 67) 27 (.agg #[.int .i64 0, .int .i64 0]) 16 rfl Try.underlying27 hinfo37 rfl (by decide) (by decide) (⟨q.f0 + x.2.f1 - d.f2.f1, q.f1 + x.2.f2 - d.f2.f2⟩ : S37) [.int .i64 (q.f0 + x.2.f1 - d.f2.f1), .int .i64 (q.f1 + x.2.f2 - d.f2.f2)] rfl rfl (k37_mkM _ _ _ _) ?aL ?_; (case aL => have := HLN.out; omega); intro A5 c5 W5 HO5; clear HO8 x2 x3 x4 x5 z0 z1 z2 z3; have HO7 := HO5; clear HO5; have x2 := pw_cell_below HO7.below HX.out.2.2.1; have x3 := pw_cell_below HO7.below HX.out.2.2.2.1; have x4 := pw_cell_below HO7.below HX.out.2.2.2.2.1; have x5 := pw_cell_below HO7.below HX.out.2.2.2.2.2))
              go_roundw
              case rel => exact ⟨k + 1, pen, out ++ [⟨q.f0 + x.2.f1 - d.f2.f1, q.f1 + x.2.f2 - d.f2.f2⟩], A5, c5, by go_num, rfl, by rw [HLN.out.1], ⟨by have := HLN.out; omega⟩, HPP, HRU, ⟨by have h := HO7.upto 1; rw [HLN.out.1] at h; exact h⟩⟩
              case measure => have := HLN.out; simp [intOf]; omega
      · have hkl : k = l.length := by have := HK.out; omega
        subst hkl
        have q1 : ¬ (l.length : Int) < (l.length : Int) := by omega
        have HF := Aside0.mk (show placesF l = out by
          unfold placesF
          rw [if_neg H200.out, if_neg, HP.out]
          intro h
          obtain ⟨d, hd, h2⟩ := List.any_eq_true.mp h
          obtain ⟨j, hj, rfl⟩ := List.getElem_of_mem hd
          have h3 := HRT0.out j hj
          rw [List.getD_eq_getElem?_getD, List.getElem?_eq_getElem hj] at h3
          simp only [Option.getD_some] at h3
          rw [h3] at h2
          cases h2)
        clear hlt
        go_wp2
        go_ret
        exact ⟨_, rfl, by rw [HF.out]; exact HO.row_R 0 rfl, HO.below⟩

end Go.Proofs.Ytnnkbcgoockniaa.Q

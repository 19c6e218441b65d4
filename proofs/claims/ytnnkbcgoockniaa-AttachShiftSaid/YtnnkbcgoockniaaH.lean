/- AttachPens: pens; made glyphs are right. -/
import Derived.Test.YtnnkbcgoockniaaG
namespace Go.Proofs.Ytnnkbcgoockniaa.Q
open Go.RowKit Go.Shelf Go.Proofs.YtnnkbcgoockniaaW.PrintWords Go.Proofs.YtnnkbcgoockniaaW.PrintLast Go.Proofs.YtnnkbcgoockniaaW.PrintMore
set_option linter.unusedSimpArgs false
set_option linter.unusedVariables false

def okA (a : S33) : Prop := (1 ≤ a.f0 ∧ a.f0 ≤ 3) ∧ (-20 ≤ a.f1 ∧ a.f1 ≤ 40) ∧ (-20 ≤ a.f2 ∧ a.f2 ≤ 40)
theorem anchor1_b (s : List Int) (p : Int) : okA (anchor1 s p).1 := by
  have h1 := nextF_v s p 3 (by omega)
  have h2 := nextF_v s (nextF s p 3).2 60 (by omega)
  have h3 := nextF_v s (nextF s (nextF s p 3).2 60).2 60 (by omega)
  refine ⟨⟨?_, ?_⟩, ⟨?_, ?_⟩, ?_, ?_⟩ <;> simp only [anchor1] <;> omega
theorem anchorsN_b (s : List Int) (p : Int) : ∀ j, ∀ a ∈ (anchorsN s p j).1, okA a
  | 0, a, h => by simp [anchorsN] at h
  | j + 1, a, h => by
    simp only [anchorsN, List.mem_append, List.mem_singleton] at h
    rcases h with h | rfl
    · exact anchorsN_b s p j a h
    · exact anchor1_b s _
theorem okA_far {a : S33} (h : (-20 ≤ a.f1 ∧ a.f1 ≤ 40) ∧ (-20 ≤ a.f2 ∧ a.f2 ≤ 40)) : farB a = false := by
  rw [farB, (smallB_iff _ _).mpr (by omega)]
  rfl
theorem made1_right (s : List Int) : rightB (made1 s) = true := by
  unfold rightB
  have h1 : ((made1 s).f1.any farB) = false := by
    rw [List.any_eq_false]
    intro a ha
    rw [okA_far (anchorsN_b s _ _ a ha).2]
    simp
  have h2 : farB (made1 s).f2 = false := by
    refine okA_far ?_
    simp only [made1]
    split
    · exact (anchor1_b s _).2
    · simp
  have h3 : smallB (made1 s).f3 0 = true := by
    refine (smallB_iff _ _).mpr ?_
    have := nextF_v s 0 60 (by omega)
    simp only [made1]
    omega
  rw [h1, h2, h3]
  rfl
theorem madeF_right (l : List (List Int)) : ∀ d ∈ madeF l, rightB d = true := by
  intro d hd
  obtain ⟨s, _, rfl⟩ := List.mem_map.mp hd
  exact made1_right s
theorem madeF_len (l : List (List Int)) : (madeF l).length ≤ 12 := by
  simp only [madeF, List.length_map, List.length_take]
  omega
theorem placesF_right {d : List S35} (hr : ∀ x ∈ d, rightB x = true) (hl : d.length ≤ 200) : placesF d = (placesN d d.length).1 := by
  unfold placesF
  rw [if_neg (by omega), if_neg]
  intro h
  obtain ⟨x, hx, h2⟩ := List.any_eq_true.mp h
  rw [hr x hx] at h2
  cases h2
theorem placesN_get (l : List S35) (k : Nat) : ∀ m, k < m → (placesN l m).1.getD k z37 = place1 l (placesN l k).1 (placesN l k).2 k
  | 0, h => by omega
  | m + 1, h => by
    have hl := placesN_length l m
    simp only [placesN]
    rw [List.getD_eq_getElem?_getD]
    rcases Nat.lt_or_ge k m with h2 | h2
    · rw [List.getElem?_append_left (by omega), ← List.getD_eq_getElem?_getD]
      exact placesN_get l k m h2
    · obtain rfl : k = m := by omega
      rw [List.getElem?_append_right (by omega), hl, Nat.sub_self]
      rfl
theorem getD_mem35 {l : List S35} {k : Nat} (h : k < l.length) : l.getD k z35 ∈ l := by
  rw [List.getD_eq_getElem?_getD, List.getElem?_eq_getElem h]
  exact List.getElem_mem _

section
attribute [local go_sem] run_eq37 run_eq37m run_eq37n
set_option maxRecDepth 100000 in
set_option maxHeartbeats 4000000 in
theorem attachPens_calls (A : Option Addr) (c : Nat) (l : List (List Int)) (w : World) (hr : Kd.C (Kd.slice 3 (Kd.int .i64)) w A l.length l) (hc : l.length ≤ c) :
    Calls Try.prog 6 #[.slice A l.length c] w fun e w' => e = .returned (.bool true) ∧ Below w.heap.size w w' := by
  have HR := Aside0.mk hr
  have HC := Aside0.mk hc
  have HL := Aside0.mk (grid_len hr rfl)
  obtain ⟨ks, hs⟩ := saneK
  have HS := Aside0.mk hs
  obtain ⟨d, hd⟩ : ∃ d, madeF l = d := ⟨_, rfl⟩
  have hdr : ∀ x ∈ d, rightB x = true := by rw [← hd]; exact madeF_right l
  have hd12 : d.length ≤ 12 := by rw [← hd]; exact madeF_len l
  have hpf := placesF_right hdr (by omega)
  obtain ⟨ps, hps⟩ : ∃ ps, placesF d = ps := ⟨_, rfl⟩
  have hpl : ps.length = d.length := by rw [← hps, hpf, placesN_length]
  have HM := Aside0.mk hd
  have HP := Aside0.mk hps
  have HPF := Aside0.mk (show (placesN d d.length).1 = ps by rw [← hps, hpf])
  have HLN := Aside0.mk hpl
  have HDR := Aside0.mk hdr
  have HLE := Aside0.mk hd12
  have HO := Own.start w
  clear hr hc hs hd hdr hd12 hpf hps hpl
  go_enter Try.func6, Try.ntmps6
  go_wp2_with (first
    | (go_at_call 10; (with_reducible refine (abugidalaw19_sanity.calls ks true _ HS.out).mono ?_); rintro e W1 ⟨rfl, hb1⟩; have HO1 := HO.grow hb1; clear HO hb1)
    | (go_at_call 11; (with_reducible refine (made_calls A c l _ (HO1.old HR.out) HC.out HL.out).mono ?_); rintro e W2 ⟨v2, rfl, hR2, hb2⟩; rw [HM.out] at hR2; have HO2 := HO1.called hb2 hR2; clear HO1 hR2 hb2; obtain ⟨A2, c2, rfl, hl2, hC2⟩ := HO2.row_at 0 rfl)
    | (go_at_call 13; (with_reducible refine (places_calls A2 c2 d _ hC2 hl2).mono ?_); rintro e W3 ⟨v3, rfl, hR3, hb3⟩; rw [HP.out] at hR3; have HO3 := HO2.called hb3 hR3; clear HO2 hR3 hb3 hl2 hC2; obtain ⟨A5, c5, he5, _, _⟩ := HO3.row_at 1 rfl; rw [HLN.out] at he5; subst he5))
  go_loopw [6, 21] (fun v6 v21 w' => ∃ (k : Nat) (pen : Int), v21 = .int .i64 k ∧ v6 = .int .i64 pen ∧ Aside0 (k ≤ d.length) ∧ Aside0 ((placesN d k).2 = pen) ∧ Aside0 (Own w w' [.row k35 35 w.heap.size (.slice A2 d.length c2) d, .row k37 37 w.heap.size (.slice A5 d.length c5) ps])) (fun _ v21 _ => d.length - (intOf v21).toNat)
  case atStart => exact ⟨0, 0, rfl, rfl, ⟨Nat.zero_le _⟩, ⟨rfl⟩, ⟨HO3⟩⟩
  case round =>
    clear HO3
    obtain ⟨k, pen, rfl, rfl, HK, HPN, HOO⟩ := hrel
    have HO := HOO.out
    clear HOO
    by_cases hlt : k < d.length
    case neg =>
      have hkl : k = d.length := by have := HK.out; omega
      have q1 : ¬ ((k : Int) < (d.length : Int)) := by omega
      clear hlt hkl
      go_wp2
      go_ret
      exact ⟨rfl, HO.below⟩
    obtain ⟨_, _, hC2⟩ := HO.row_sl 0 rfl
    obtain ⟨ad, A0, c0, A1, c1, hA2, x0, x1, x2, x3, x4, x5, y0, y1, y2, y3⟩ := at_T35 hC2 (k : Int) (by omega) (by omega)
    subst hA2
    rw [show rd_T35 d (k : Int) = d.getD k z35 from rfl] at x0 x1 x2 x3 x4 x5
    rw [Int.toNat_natCast] at x0 x1 x2 x3 x4 x5
    clear y0 y1 y2 y3 hC2
    have hm := right_small (HDR.out _ (getD_mem35 hlt))
    have hbd := (placesN_bound d HDR.out k (by omega)).1
    rw [HPN.out] at hbd
    have hk12 := HLE.out
    have hget := placesN_get d k d.length hlt
    rw [HPF.out, HPN.out] at hget
    have hnx : (placesN d (k + 1)).2 = pen1 d pen k := by rw [show (placesN d (k + 1)).2 = pen1 d (placesN d k).2 k from rfl, HPN.out]
    rw [pen1] at hnx
    rw [place1] at hget
    obtain ⟨x, hx⟩ : ∃ x, d.getD k z35 = x := ⟨_, rfl⟩
    rw [hx] at x0 x1 x2 x3 x4 x5 hm hnx hget
    obtain ⟨hm1, ⟨hm2, hm3⟩, hm4, hm5⟩ := hm
    have wb1 : -9223372036854775808 ≤ pen + x.f3 := by omega
    have wb2 : pen + x.f3 ≤ 9223372036854775807 := by omega
    have HKL := Aside0.mk hlt
    have p1 : (0 ≤ (k : Int)) = True := eq_true (by omega)
    have q1 : ((k : Int) < (d.length : Int)) = True := eq_true (by omega)
    have hkb : (k : Int) + 1 ≤ 200 := by omega
    clear hbd hm1 hm2 hm3 hm4 hm5 hk12 hx hlt
    by_cases hz : x.f2.f0 = 0
    · have hzb : (x.f2.f0 == 0) = true := beq_iff_eq.mpr hz
      rw [if_pos hz] at hget hnx
      have HG := Aside0.mk hget
      have HNX := Aside0.mk hnx
      clear hget hnx hz
      go_wp2_with (first
        | ((with_reducible refine gate_dst (N := 8) rfl ?_); refine ev_box (N := 8) (cs := #[.slice none 0 0, .slice none 0 0, .int .i64 0, .int .i64 0, .int .i64 0, .int .i64 0]) (t := 35) HO rfl rfl ?hr ?_; (case hr => first | (go_simp; done) | (go_simp; rfl)); intro g8 W1 HO1 hb1; clear HO hb1 x0 x1 x2 x3 x4 x5)
        | ((with_reducible refine gate_store (t := 35) (p := 8) rfl ?_); refine ev_store (cs' := #[.slice A0 x.f0.length c0, .slice A1 x.f1.length c1, .int .i64 x.f2.f0, .int .i64 x.f2.f1, .int .i64 x.f2.f2, .int .i64 x.f3]) (.agg #[.slice A0 x.f0.length c0, .slice A1 x.f1.length c1, .int .i64 x.f2.f0, .int .i64 x.f2.f1, .int .i64 x.f2.f2, .int .i64 x.f3]) 2 HO1 rfl rfl rfl rfl 0 rfl rfl sz35 (by simp [Value.oneCell', Value.cells]) (Nat.le_refl _) rfl ?_; intro W2 HO2; clear HO1; have z2 := HO2.box_cell 2 rfl 2 rfl; have z5 := HO2.box_cell 2 rfl 5 rfl; obtain ⟨hn7, _, hC7⟩ := HO2.row_sl 1 rfl; obtain ⟨ad7, hA7, u0, u1⟩ := at_T37 hC7 (k : Int) (by omega) (by have := HLN.out; have := HKL.out; omega); subst hA7; rw [show rd_T37 ps (k : Int) = ps.getD k z37 from rfl, HG.out, Int.toNat_natCast] at u0 u1; clear hC7 hn7))
      go_roundw
      case rel => exact ⟨k + 1, pen + x.f3, by go_num, by go_num, ⟨HKL.out⟩, HNX, ⟨HO2.upto 2⟩⟩
      case measure => have := HKL.out; simp [intOf]; omega
    · have hzb : (x.f2.f0 == 0) = false := beq_eq_false_iff_ne.mpr hz
      rw [if_neg hz] at hnx
      have HNX := Aside0.mk hnx
      clear hget hnx hz
      go_wp2_with (first
        | ((with_reducible refine gate_dst (N := 8) rfl ?_); refine ev_box (N := 8) (cs := #[.slice none 0 0, .slice none 0 0, .int .i64 0, .int .i64 0, .int .i64 0, .int .i64 0]) (t := 35) HO rfl rfl ?hr ?_; (case hr => first | (go_simp; done) | (go_simp; rfl)); intro g8 W1 HO1 hb1; clear HO hb1 x0 x1 x2 x3 x4 x5)
        | ((with_reducible refine gate_store (t := 35) (p := 8) rfl ?_); refine ev_store (cs' := #[.slice A0 x.f0.length c0, .slice A1 x.f1.length c1, .int .i64 x.f2.f0, .int .i64 x.f2.f1, .int .i64 x.f2.f2, .int .i64 x.f3]) (.agg #[.slice A0 x.f0.length c0, .slice A1 x.f1.length c1, .int .i64 x.f2.f0, .int .i64 x.f2.f1, .int .i64 x.f2.f2, .int .i64 x.f3]) 2 HO1 rfl rfl rfl rfl 0 rfl rfl sz35 (by simp [Value.oneCell', Value.cells]) (Nat.le_refl _) rfl ?_; intro W2 HO2; clear HO1; have z2 := HO2.box_cell 2 rfl 2 rfl; have z5 := HO2.box_cell 2 rfl 5 rfl))
      go_roundw
      case rel => exact ⟨k + 1, pen, by go_num, rfl, ⟨HKL.out⟩, HNX, ⟨HO2.upto 2⟩⟩
      case measure => have := HKL.out; simp [intOf]; omega
end
theorem attachPens_walk (A : Option Addr) (c n : Nat) (l : List (List Int)) (w : World) (hn : n = l.length) (hr : Kd.C (Kd.slice 3 (Kd.int .i64)) w A l.length l) (hc : n ≤ c) :
    Calls Try.prog 6 #[.slice A n c] w fun e w' => e = .returned (.bool true) ∧ Below w.heap.size w w' := by
  subst hn
  exact attachPens_calls A c l w hr hc
end Go.Proofs.Ytnnkbcgoockniaa.Q

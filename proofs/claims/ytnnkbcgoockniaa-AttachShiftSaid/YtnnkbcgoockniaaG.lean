/- AttachPlaces: both tell the same places. -/
import Derived.Test.YtnnkbcgoockniaaE
import Derived.Test.YtnnkbcgoockniaaF
import Derived.Test.YtnnkbcgoockniaaGrid
namespace Go.Proofs.Ytnnkbcgoockniaa.Q
open Go.RowKit Go.Shelf Go.Proofs.YtnnkbcgoockniaaW.PrintWords Go.Proofs.YtnnkbcgoockniaaW.PrintLast Go.Proofs.YtnnkbcgoockniaaW.PrintMore
set_option linter.unusedSimpArgs false
set_option linter.unusedVariables false

theorem saneK : ∃ k, abugidalaw19_sanity.f k = some true := ⟨40, by decide +kernel⟩
theorem same_loop (l : List S37) (hl : l.length ≤ 9223372036854775807) : ∀ (d i : Nat), i + d = l.length → Ev (fun k => abugidaref19_Same.l0 k l l (i : Int)) true
  | 0, i, h => by
    refine Ev.step (fun k => by simp only [abugidaref19_Same.l0]; exact rfl) ?_
    refine Ev.congr (fun k => ?_) (Ev.now _)
    rw [if_neg (by omega)]
  | d + 1, i, h => by
    refine Ev.step (fun k => by simp only [abugidaref19_Same.l0]; exact rfl) ?_
    refine Ev.congr (f := fun k => abugidaref19_Same.l0 k l l ((i + 1 : Nat) : Int)) (fun k => ?_) (same_loop l hl d (i + 1) (by omega))
    rw [if_pos (by omega), if_pos (by omega), if_pos (by omega), if_pos trivial, if_pos trivial, hw64 (x := (i : Int) + 1) (by omega) (by omega)]
    rfl
theorem sameK (l : List S37) (hl : l.length ≤ 9223372036854775807) : ∃ k, abugidaref19_Same.f k l l = some true := by
  refine Ev.rounds ?_
  refine Ev.congr (f := fun k => abugidaref19_Same.l0 k l l ((0 : Nat) : Int)) (fun k => ?_) (same_loop l hl l.length 0 (by omega))
  rw [abugidaref19_Same.f, if_pos rfl]
  rfl
theorem placesF_length (l : List S35) : (placesF l).length ≤ 200 := by
  unfold placesF
  split
  · exact Nat.zero_le _
  · split
    · exact Nat.zero_le _
    · rw [placesN_length]; omega
theorem grid_len {w : World} {A : Option Addr} {n : Nat} {l : List (List Int)} (hr : Kd.C (Kd.slice 3 (Kd.int .i64)) w A n l) (hn : n = l.length) : ∀ s ∈ l, s.length ≤ 9223372036854775807 := by
  intro s hs
  obtain ⟨i, hi, rfl⟩ := List.getElem_of_mem hs
  obtain ⟨ad, A0, c0, _, _, _, h⟩ := at_LI hr (i : Int) (by omega) (by omega)
  have h2 := Kd.C_max h
  rw [Int.toNat_natCast, List.getD_eq_getElem?_getD, List.getElem?_eq_getElem hi] at h2
  exact h2
set_option maxRecDepth 100000 in
set_option maxHeartbeats 4000000 in
theorem attachPlaces_calls (A : Option Addr) (c : Nat) (l : List (List Int)) (w : World) (hr : Kd.C (Kd.slice 3 (Kd.int .i64)) w A l.length l) (hc : l.length ≤ c) :
    Calls Try.prog 3 #[.slice A l.length c] w fun e w' => e = .returned (.bool true) ∧ Below w.heap.size w w' := by
  have HR := Aside0.mk hr
  have HC := Aside0.mk hc
  have HL := Aside0.mk (grid_len hr rfl)
  obtain ⟨ks, hs⟩ := saneK
  obtain ⟨km, hm⟩ := sameK (placesF (madeF l)) (by have := placesF_length (madeF l); omega)
  have HS := Aside0.mk hs
  have HM := Aside0.mk hm
  have HO := Own.start w
  clear hr hc hs hm
  go_enter Try.func3, Try.ntmps3
  go_wp2_with (first
    | (go_at_call 10; (with_reducible refine (abugidalaw19_sanity.calls ks true _ HS.out).mono ?_); rintro e W1 ⟨rfl, hb1⟩; have HO1 := HO.grow hb1; clear HO hb1)
    | (go_at_call 11; (with_reducible refine (made_calls A c l _ (HO1.old HR.out) HC.out HL.out).mono ?_); rintro e W2 ⟨v2, rfl, hR2, hb2⟩; have HO2 := HO1.called hb2 hR2; clear HO1 hR2 hb2; obtain ⟨A2, c2, rfl, hl2, hC2⟩ := HO2.row_at 0 rfl)
    | (go_at_call 13; (with_reducible refine (places_calls A2 c2 (madeF l) _ hC2 hl2).mono ?_); rintro e W3 ⟨v3, rfl, hR3, hb3⟩; have HO3 := HO2.called hb3 hR3; clear HO2 hR3 hb3 hl2 hC2; obtain ⟨n3, hl3, hC3⟩ := HO3.row_sl 0 rfl)
    | (go_at_call 14; (with_reducible refine (refplaces_calls A2 c2 (madeF l) _ hC3 hl3).mono ?_); rintro e W4 ⟨v4, rfl, hR4, hb4⟩; have HO4 := HO3.called hb4 hR4; clear HO3 hR4 hb4 n3 hl3 hC3; obtain ⟨A5, c5, rfl, hl5, hC5⟩ := HO4.row_at 1 rfl; obtain ⟨A6, c6, rfl, hl6, hC6⟩ := HO4.row_at 2 rfl)
    | (go_at_call 12; (with_reducible refine (abugidaref19_Same.calls km A5 c5 _ A6 c6 _ true _ hC5 hl5 hC6 hl6 HM.out).mono ?_); rintro e W7 ⟨rfl, hd⟩; have HO7 := HO4.grow hd.below; clear HO4 hd))
  go_ret
  exact ⟨rfl, HO7.below⟩
theorem attachPlaces_walk (A : Option Addr) (c n : Nat) (l : List (List Int)) (w : World) (hn : n = l.length) (hr : Kd.C (Kd.slice 3 (Kd.int .i64)) w A l.length l) (hc : n ≤ c) :
    Calls Try.prog 3 #[.slice A n c] w fun e w' => e = .returned (.bool true) ∧ Below w.heap.size w w' := by
  subst hn
  exact attachPlaces_calls A c l w hr hc
end Go.Proofs.Ytnnkbcgoockniaa.Q

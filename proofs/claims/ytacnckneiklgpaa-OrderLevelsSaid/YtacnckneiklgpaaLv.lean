/- order.Levels. Printed by genLv.py. -/
import Derived.Test.YtacnckneiklgpaaDr
namespace Go.Proofs.Ytacnckneiklgpaa.Q
open Go.RowKit Go.Proofs.YtacnckneiklgpaaW.PrintWords Go.Proofs.YtacnckneiklgpaaW.PrintLast Go.Proofs.YtacnckneiklgpaaW.PrintMore
set_option linter.unusedSimpArgs false
set_option linter.unusedVariables false
def lev1 (b d k : Int) : Int := if (d = 2 ∧ k = 3) ∨ (d = 1 ∧ b = 2) then 2 else if d = 2 then 1 else 0
def levF (bs kinds : List Int) : List Int := List.zipWith (lev1 (baseL bs)) (dirF bs kinds) kinds
def levelsO (s : ByteArray) : Option (List Int) := (order_kinds.f 1000 s).bind fun ks => if s.size = ks.length ∧ ks.length ≤ 1000000 then some (levF (bytesOf s) ks) else none
theorem pcs_fold_length (b : Int) (n : Nat) : ∀ (ps : List (Nat × Nat × Bool)) (o : List Int), (∀ p ∈ ps, p.1 < p.2.1 ∧ p.2.1 ≤ o.length) → (ps.foldl (dirP b n) o).length = o.length
  | [], o, _ => rfl
  | p :: ps, o, h => by
    have hp := h p List.mem_cons_self
    have hl := dirP_length b n o p hp.1 hp.2
    rw [List.foldl_cons, pcs_fold_length b n ps _ (fun q hq => by rw [hl]; exact h q (List.mem_cons_of_mem _ hq)), hl]
theorem dirF_length (bs ks : List Int) : (dirF bs ks).length = ks.length := by
  unfold dirF
  rw [lineL_length, pcs_fold_length, lastL_length]
  intro p hp
  have := pcs_mem _ _ _ p hp
  rw [lastL_length]
  omega
theorem zip_step (f : Int → Int → Int) : ∀ (k : Nat) (ds ks : List Int), k < ds.length → k < ks.length → (List.zipWith f (ds.take k) (ks.take k) ++ ds.drop k).set k (f (ds.getD k 0) (ks.getD k 0)) = List.zipWith f (ds.take (k + 1)) (ks.take (k + 1)) ++ ds.drop (k + 1)
  | _, [], ks, h, _ => absurd h (Nat.not_lt_zero _)
  | _, _ :: _, [], _, h => absurd h (Nat.not_lt_zero _)
  | 0, d :: ds, k :: ks, _, _ => by simp
  | n + 1, d :: ds, k :: ks, h1, h2 => by
    have ih := zip_step f n ds ks (by simpa using h1) (by simpa using h2)
    simp only [List.take_succ_cons, List.zipWith_cons_cons, List.cons_append, List.drop_succ_cons, List.set_cons_succ, List.getD_cons_succ]
    rw [ih]
theorem zip_get (f : Int → Int → Int) : ∀ (k : Nat) (ds ks : List Int), k < ds.length → k < ks.length → (List.zipWith f (ds.take k) (ks.take k) ++ ds.drop k).getD k 0 = ds.getD k 0
  | _, [], ks, h, _ => absurd h (Nat.not_lt_zero _)
  | _, _ :: _, [], _, h => absurd h (Nat.not_lt_zero _)
  | 0, d :: ds, k :: ks, _, _ => by simp
  | n + 1, d :: ds, k :: ks, h1, h2 => by
    have ih := zip_get f n ds ks (by simpa using h1) (by simpa using h2)
    simp only [List.take_succ_cons, List.zipWith_cons_cons, List.cons_append, List.drop_succ_cons, List.getD_cons_succ]
    exact ih
theorem dir_n {n : Nat} (A : Option Addr) (c : Nat) (l : List Int) (w : World) (s : ByteArray) (hn : l.length = n) (hr : (Kd.int .i64).C w A l.length l) (hc : n ≤ c) (hl : l.length ≤ 1000000) (hs : s.size = l.length) {ds : List Int} (hd : dirF (bytesOf s) l = ds) :
    Calls Try.prog 31 #[.string s, .slice A n c] w fun e w' => ∃ v, e = .returned v ∧ Kd.R (Kd.int .i64) 3 w' w.heap.size (fun _ => True) v ds ∧ Below w.heap.size w w' := by
  subst hn
  subst hd
  exact directions_calls s A c l w hr hc hl hs
set_option maxRecDepth 100000 in
set_option maxHeartbeats 8000000 in
theorem levels_calls (s : ByteArray) (r : List Int) (w : World) (h : levelsO s = some r) :
    Calls Try.prog 14 #[.string s] w fun e w' => ∃ v, e = .returned v ∧ Kd.R (Kd.int .i64) 3 w' w.heap.size (fun _ => True) v r ∧ Below w.heap.size w w' := by
  obtain ⟨ks, hks, h2⟩ := Option.bind_eq_some_iff.mp h
  split at h2
  case isFalse => cases h2
  rename_i hsz
  obtain ⟨hs, hl⟩ := hsz
  obtain rfl := Option.some.inj h2
  obtain ⟨N, hN⟩ : ∃ N, ks.length = N := ⟨_, rfl⟩
  obtain ⟨b, hb⟩ : ∃ b, baseL (bytesOf s) = b := ⟨_, rfl⟩
  obtain ⟨ds, hds⟩ : ∃ ds, dirF (bytesOf s) ks = ds := ⟨_, rfl⟩
  have HDL := Aside0.mk (show ds.length = N by rw [← hds, dirF_length, hN])
  have HLV := Aside0.mk (show levF (bytesOf s) ks = List.zipWith (lev1 b) ds ks by rw [levF, hb, hds])
  have HKS := Aside0.mk hks
  have HN := Aside0.mk hN
  have HB := Aside0.mk hb
  have HDS := Aside0.mk hds
  have HS := Aside0.mk hs
  have HL := Aside0.mk hl
  have hs9 : s.size ≤ 9223372036854775807 := by omega
  have hn9 : (N : Int) ≤ 1000000 := by omega
  have HO := Own.start w
  clear h hks h2 hs hl hN hb hds
  go_enter Try.func14, Try.ntmps14
  go_wp2_with (first
    | (go_at_call 30; (with_reducible refine (order_kinds.calls 1000 s ks _ HKS.out).mono ?_); rintro e W1 ⟨v1, rfl, hR1, hb1⟩; have HO1 := HO.called hb1 hR1; clear HO hR1 hb1; obtain ⟨A1, c1, he1, hl1, hC1⟩ := HO1.row_at 0 rfl; rw [HN.out] at he1 hl1; subst he1; have HL1 := Aside0.mk hl1; clear hC1 hl1)
    | (go_at_call 28; (with_reducible refine (base_calls s hs9 _).mono ?_); rintro e W2 ⟨rfl, hb2⟩; rw [HB.out]; have HO2 := HO1.grow hb2; clear HO1 hb2; have hdc := dir_n A1 c1 ks _ s HN.out (HO2.row_sl 0 rfl).2.2 HL1.out HL.out HS.out HDS.out)
    | (go_at_call 31; (with_reducible refine hdc.mono ?_); rintro e W3 ⟨v3, rfl, hR3, hb3⟩; have HO3 := HO2.called hb3 hR3; clear HO2 hR3 hb3 hdc; obtain ⟨Ao, co, he3, hl3, -⟩ := HO3.row_at 1 rfl; rw [HDL.out] at he3 hl3; subst he3; have HL3 := Aside0.mk hl3; clear hl3))
  go_loopw [17] (fun v17 w' => ∃ (k : Nat), v17 = .int .i64 k ∧ Aside0 (k ≤ N) ∧ Aside0 (Own w w' [.row (Kd.int .i64) 3 w.heap.size (.slice A1 N c1) ks, .row (Kd.int .i64) 3 w.heap.size (.slice Ao N co) (List.zipWith (lev1 b) (ds.take k) (ks.take k) ++ ds.drop k)])) (fun v17 _ => N - (intOf v17).toNat)
  case atStart => exact ⟨0, rfl, ⟨Nat.zero_le _⟩, ⟨HO3⟩⟩
  case round =>
    clear HO3
    obtain ⟨k, rfl, HK, HOO⟩ := hrel
    have HO := HOO.out
    clear HOO
    by_cases hlt : k < N
    case neg =>
      have hk : k = N := by have := HK.out; omega
      have q1 : ¬ ((k : Int) < (N : Int)) := by omega
      have HV := Aside0.mk (show List.zipWith (lev1 b) (ds.take k) (ks.take k) ++ ds.drop k = levF (bytesOf s) ks by rw [HLV.out, hk, List.take_of_length_le (by rw [HDL.out]; exact Nat.le_refl _), List.take_of_length_le (by rw [HN.out]; exact Nat.le_refl _), List.drop_of_length_le (by rw [HDL.out]; exact Nat.le_refl _), List.append_nil])
      rw [HV.out] at HO
      clear hlt hk
      go_wp2
      go_ret
      exact ⟨_, rfl, HO.row_R 1 rfl, HO.below⟩
    obtain ⟨g, hg⟩ : ∃ g, Ao = some ⟨g, 0, none⟩ := by
      obtain ⟨ad, hA, -⟩ := (HO.row_sl 1 rfl).2.2.2.2 (by have := (HO.row_sl 1 rfl).1; omega)
      subst hA
      obtain ⟨g, rfl⟩ := HO.row_head 1 rfl
      exact ⟨g, rfl⟩
    subst hg
    obtain ⟨ad, hA, z0⟩ := at_int (HO.row_sl 0 rfl).2.2 k (by rw [HN.out]; exact hlt)
    subst hA
    obtain ⟨x1, f1⟩ := HO.int_cell 1 rfl k hlt
    rw [zip_get _ _ _ _ (by rw [HDL.out]; exact hlt) (by rw [HN.out]; exact hlt)] at x1
    have HST := Aside0.mk (zip_step (lev1 b) k ds ks (by rw [HDL.out]; exact hlt) (by rw [HN.out]; exact hlt))
    obtain ⟨d, hd⟩ : ∃ d, ds.getD k 0 = d := ⟨_, rfl⟩
    obtain ⟨kx, hkx⟩ : ∃ kx, ks.getD k 0 = kx := ⟨_, rfl⟩
    rw [hd] at x1 HST
    rw [hkx] at z0 HST
    have q1 : ((k : Int) < (N : Int)) = True := eq_true (by omega)
    have pk : (0 ≤ (k : Int)) = True := eq_true (by omega)
    have hkb : (k : Int) + 1 ≤ 1000001 := by omega
    have HKL := Aside0.mk hlt
    clear hlt hd hkx
    by_cases h2 : d = 2
    · have e1 : (d == 2) = true := beq_iff_eq.mpr h2
      have e2 : (d == 1) = false := beq_eq_false_iff_ne.mpr (by omega)
      by_cases h3 : kx = 3
      · have e3 : (kx == 3) = true := beq_iff_eq.mpr h3
        have HV := Aside0.mk (show lev1 b d kx = 2 from if_pos (.inl ⟨h2, h3⟩))
        clear h2 h3
        have HST2 := Aside0.mk (by have h := HST.out; rw [HV.out] at h; exact h)
        go_wp2
        have HO2 := HO.intput 1 rfl k 2
        rw [HST2.out] at HO2
        go_roundw
        case rel => exact ⟨k + 1, by go_num, ⟨HKL.out⟩, ⟨HO2⟩⟩
        case measure => have := HKL.out; simp [intOf]; omega
      · have e3 : (kx == 3) = false := beq_eq_false_iff_ne.mpr h3
        have HV := Aside0.mk (show lev1 b d kx = 1 by rw [lev1, if_neg (by omega), if_pos h2])
        clear h2 h3
        have HST2 := Aside0.mk (by have h := HST.out; rw [HV.out] at h; exact h)
        go_wp2
        have HO2 := HO.intput 1 rfl k 1
        rw [HST2.out] at HO2
        go_roundw
        case rel => exact ⟨k + 1, by go_num, ⟨HKL.out⟩, ⟨HO2⟩⟩
        case measure => have := HKL.out; simp [intOf]; omega
    · have e1 : (d == 2) = false := beq_eq_false_iff_ne.mpr h2
      by_cases h1 : d = 1
      · have e2 : (d == 1) = true := beq_iff_eq.mpr h1
        by_cases hb2 : b = 2
        · have e3 : (b == 2) = true := beq_iff_eq.mpr hb2
          have HV := Aside0.mk (show lev1 b d kx = 2 from if_pos (.inr ⟨h1, hb2⟩))
          clear h1 h2 hb2
          have HST2 := Aside0.mk (by have h := HST.out; rw [HV.out] at h; exact h)
          go_wp2
          have HO2 := HO.intput 1 rfl k 2
          rw [HST2.out] at HO2
          go_roundw
          case rel => exact ⟨k + 1, by go_num, ⟨HKL.out⟩, ⟨HO2⟩⟩
          case measure => have := HKL.out; simp [intOf]; omega
        · have e3 : (b == 2) = false := beq_eq_false_iff_ne.mpr hb2
          have HV := Aside0.mk (show lev1 b d kx = 0 by rw [lev1, if_neg (by omega), if_neg h2])
          clear h1 h2 hb2
          have HST2 := Aside0.mk (by have h := HST.out; rw [HV.out] at h; exact h)
          go_wp2
          have HO2 := HO.intput 1 rfl k 0
          rw [HST2.out] at HO2
          go_roundw
          case rel => exact ⟨k + 1, by go_num, ⟨HKL.out⟩, ⟨HO2⟩⟩
          case measure => have := HKL.out; simp [intOf]; omega
      · have e2 : (d == 1) = false := beq_eq_false_iff_ne.mpr h1
        have HV := Aside0.mk (show lev1 b d kx = 0 by rw [lev1, if_neg (by omega), if_neg h2])
        clear h1 h2
        have HST2 := Aside0.mk (by have h := HST.out; rw [HV.out] at h; exact h)
        go_wp2
        have HO2 := HO.intput 1 rfl k 0
        rw [HST2.out] at HO2
        go_roundw
        case rel => exact ⟨k + 1, by go_num, ⟨HKL.out⟩, ⟨HO2⟩⟩
        case measure => have := HKL.out; simp [intOf]; omega
end Go.Proofs.Ytacnckneiklgpaa.Q

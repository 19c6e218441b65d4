/- OrderPieces, the plain part. -/
import Derived.Test.YtacnckneiklgpaaQx25
import Derived.Test.YtacnckneiklgpaaVq
namespace Go.Proofs.Ytacnckneiklgpaa.Pure
open Go.RowKit Go.Proofs.Ytacnckneiklgpaa.Q Go.Proofs.YtacnckneiklgpaaW.PrintWords Go.Proofs.YtacnckneiklgpaaW.PrintLast Go.Proofs.YtacnckneiklgpaaW.PrintMore
set_option linter.unusedVariables false
namespace Pcs
theorem saneK : ∃ k, abugidalaw07_sanity.f k = some true := ⟨300, by decide +kernel⟩
theorem ev_sane : Ev (fun k => abugidalaw07_sanity.f k) true := by
  obtain ⟨k, h⟩ := saneK
  exact Ev.of abugidalaw07_sanity.mono h
theorem w64n (i : Nat) (h : (i : Int) + 1 ≤ 9223372036854775807) : wrap64 ((i : Int) + 1) = ((i + 1 : Nat) : Int) := by
  unfold wrap64; omega
theorem mod_some (x : Int) (n : Int) (hn : 0 < n ∧ n ≤ 1000) : ∃ r, abugidaref01_Mod.f x n = some r ∧ 0 ≤ r ∧ r < n := by
  have h1 := Int.tmod_lt_of_pos x hn.1
  have h2 : -n < Int.tmod x n := by
    have := Int.neg_tmod x n
    have h3 := Int.tmod_lt_of_pos (-x) hn.1
    omega
  have hw : wrap64 (Int.tmod x n + n) = Int.tmod x n + n := by unfold wrap64; omega
  refine ⟨Int.tmod (Int.tmod x n + n) n, ?_, Int.tmod_nonneg _ (by omega), Int.tmod_lt_of_pos _ hn.1⟩
  rw [abugidaref01_Mod.f, if_neg (by omega), hw]
theorem rd_at (xs : List Int) (j : Nat) (hj : j < xs.length) : rd xs (j : Int) = xs[j] := by
  unfold rd
  rw [Int.toNat_natCast, List.getD_eq_getElem?_getD, List.getElem?_eq_getElem hj]
  rfl
theorem rd_mem (xs : List Int) (j : Nat) (hj : j < xs.length) : rd xs (j : Int) ∈ xs := by
  rw [rd_at xs j hj]
  exact List.getElem_mem _
theorem rd_set (xs : List Int) (i j : Nat) (u : Int) (hi : i < xs.length) : rd (xs.set i u) (j : Int) = if i = j then u else rd xs (j : Int) := by
  unfold rd
  rw [Int.toNat_natCast, List.getD_eq_getElem?_getD, List.getElem?_set, List.getD_eq_getElem?_getD]
  by_cases h : i = j
  · subst h
    rw [if_pos rfl, if_pos rfl, if_pos hi]
    rfl
  · rw [if_neg h, if_neg h]
theorem u8_wf {x : Int} (h : (Lit.int .u8 x).wf = true) : 0 ≤ x ∧ x ≤ 255 := by
  have e1 : IntKind.u8.min = 0 := by decide
  have e2 : IntKind.u8.max = 255 := by decide
  have h' : (decide (IntKind.u8.min ≤ x) && decide (x ≤ IntKind.u8.max)) = true := h
  rw [e1, e2, Bool.and_eq_true, decide_eq_true_eq, decide_eq_true_eq] at h'
  exact h'
/-- Equal of a list and itself. -/
theorem equal_l0 (l : List Int) (hl : l.length ≤ 1000) : ∀ (d i : Nat), i + d = l.length → Ev (fun k => abugidaref07_Equal.l0 k l l (i : Int)) true
  | 0, i, h => by
    refine Ev.step (fun k => by simp only [abugidaref07_Equal.l0, if_neg (show ¬ (i : Int) < (l.length : Int) by omega)]; rfl) ?_
    exact Ev.now _
  | d + 1, i, h => by
    refine Ev.step (fun k => by simp only [abugidaref07_Equal.l0, if_pos (show (i : Int) < (l.length : Int) by omega), if_pos (show (0 : Int) ≤ (i : Int) by omega), w64n i (by omega)]; rfl) ?_
    exact Ev.congr (fun k => if_pos trivial) (equal_l0 l hl d (i + 1) (by omega))
theorem equal_ev (l : List Int) (hl : l.length ≤ 1000) : Ev (fun k => abugidaref07_Equal.f k l l) true := by
  refine Ev.congr (fun k => ?_) (equal_l0 l hl l.length 0 (by omega))
  rw [abugidaref07_Equal.f, if_pos rfl]
  rfl
theorem run_end (xs : List Int) (n : Int) : ∀ (d i : Nat), i + d = xs.length → 0 < d → n ≤ rd xs (i : Int) → ∃ e, i < e ∧ e ≤ xs.length ∧ (∀ j : Nat, i ≤ j → j < e → n ≤ rd xs (j : Int)) ∧ (e = xs.length ∨ rd xs (e : Int) < n)
  | 0, i, h, h0, _ => absurd h0 (by omega)
  | d + 1, i, h, _, hn => by
    by_cases hd : d = 0
    · exact ⟨i + 1, by omega, by omega, fun j h1 h2 => by rw [show j = i by omega]; exact hn, .inl (by omega)⟩
    · by_cases hx : n ≤ rd xs ((i + 1 : Nat) : Int)
      · obtain ⟨e, h1, h2, h3, h4⟩ := run_end xs n d (i + 1) (by omega) (by omega) hx
        refine ⟨e, by omega, h2, fun j h5 h6 => ?_, h4⟩
        by_cases hj : j = i
        · rw [hj]; exact hn
        · exact h3 j (by omega) h6
      · exact ⟨i + 1, by omega, by omega, fun j h1 h2 => by rw [show j = i by omega]; exact hn, .inr (by omega)⟩
theorem wr3 (hi lo : Int) (i j : Nat) (h : hi - lo = (j : Int) - 1 - (i : Int)) (hj : j ≤ 100) : (wrap64 (hi - lo) = wrap64 (wrap64 ((j : Int) - 1) - (i : Int))) = True := eq_true (by
  have e3 : wrap64 ((j : Int) - 1) = (j : Int) - 1 := by unfold wrap64; omega
  rw [h, e3])
theorem wr1 (j e : Nat) (h : j = e) (hj : j ≤ 100) : wrap64 ((j : Int) + 1) = ((e + 1 : Nat) : Int) := by unfold wrap64; omega
/-- l3: the places of a run lie side by side. -/
theorem pcs_l3 (a1 : Int) (n : Nat) (xs pl : List Int) (i e : Nat) (hn : Int.tmod (wrap64 a1) 9 = (n : Int)) (hl : xs.length ≤ 60) (hp : pl.length = xs.length) (hie : i < e) (he : e ≤ xs.length)
    (hin : ∀ j : Nat, i ≤ j → j < e → (n : Int) ≤ rd xs (j : Int)) (hhi : e = xs.length ∨ rd xs (e : Int) < (n : Int)) (A : Nat) (hA : A ≤ 60)
    (hb : ∀ j : Nat, i ≤ j → j < e → (A : Int) ≤ rd pl (j : Int) ∧ rd pl (j : Int) < (A : Int) + ((e : Int) - (i : Int)))
    (h0 : ∃ j : Nat, i ≤ j ∧ j < e ∧ rd pl (j : Int) = (A : Int)) (h1 : ∃ j : Nat, i ≤ j ∧ j < e ∧ rd pl (j : Int) = (A : Int) + ((e : Int) - (i : Int)) - 1)
    (hc : Ev (fun k => abugidalaw07_OrderPieces.l2 k a1 true xs pl ((e + 1 : Nat) : Int)) true) :
    ∀ (d j : Nat) (lo hi : Int), j + d = e → i ≤ j → (A : Int) ≤ lo → hi < (A : Int) + ((e : Int) - (i : Int)) → lo ≤ hi → (∀ t : Nat, i ≤ t → t < j → lo ≤ rd pl (t : Int) ∧ rd pl (t : Int) ≤ hi) →
    Ev (fun k => abugidalaw07_OrderPieces.l3 k a1 true xs pl (i : Int) lo hi (j : Int)) true
  | 0, j, lo, hi, hj, hij, q1, q2, q3, q4 => by
    obtain ⟨s, s1, s2, s3⟩ := h0
    obtain ⟨t, t1, t2, t3⟩ := h1
    have u1 := (q4 s s1 (by omega)).1
    have u2 := (q4 t t1 (by omega)).2
    by_cases hje : j = xs.length
    · refine Ev.step (fun k => by simp only [abugidalaw07_OrderPieces.l3, if_neg (show ¬ (j : Int) < (xs.length : Int) by omega), wr3 hi lo i j (by omega) (by omega), if_true, wr1 j e (by omega) (by omega)]; rfl) ?_
      exact hc
    · have hlt : rd xs (j : Int) < (n : Int) := by
        rcases hhi with h | h
        · omega
        · rw [show j = e by omega]; exact h
      refine Ev.step (fun k => by simp only [abugidalaw07_OrderPieces.l3, hn, if_pos (show (j : Int) < (xs.length : Int) by omega), if_pos (show (0 : Int) ≤ (j : Int) by omega), if_neg (show ¬ rd xs (j : Int) ≥ (n : Int) by omega), wr3 hi lo i j (by omega) (by omega), if_true, wr1 j e (by omega) (by omega)]; rfl) ?_
      exact hc
  | d + 1, j, lo, hi, hj, hij, q1, q2, q3, q4 => by
    have b := hb j hij (by omega)
    have m1 : mn lo (rd pl (j : Int)) ≤ lo ∧ mn lo (rd pl (j : Int)) ≤ rd pl (j : Int) ∧ (A : Int) ≤ mn lo (rd pl (j : Int)) := by unfold mn; split <;> omega
    have m2 : hi ≤ mx hi (rd pl (j : Int)) ∧ rd pl (j : Int) ≤ mx hi (rd pl (j : Int)) ∧ mx hi (rd pl (j : Int)) < (A : Int) + ((e : Int) - (i : Int)) := by unfold mx; split <;> omega
    have ih := pcs_l3 a1 n xs pl i e hn hl hp hie he hin hhi A hA hb h0 h1 hc d (j + 1) (mn lo (rd pl (j : Int))) (mx hi (rd pl (j : Int))) (by omega) (by omega) m1.2.2 m2.2.2 (by omega) (fun t t1 t2 => by
      by_cases ht : t = j
      · rw [ht]; exact ⟨m1.2.1, m2.2.1⟩
      · have := q4 t t1 (by omega)
        omega)
    refine Ev.step (fun k => by simp only [abugidalaw07_OrderPieces.l3, hn, if_pos (show (j : Int) < (xs.length : Int) by omega), if_pos (show (0 : Int) ≤ (j : Int) by omega), if_pos (show rd xs (j : Int) ≥ (n : Int) from hin j hij (by omega)), if_pos (show (j : Int) < (pl.length : Int) by omega), w64n j (by omega)]; rfl) ?_
    exact ih
/-- l2: run by run. -/
theorem pcs_l2 (a1 : Int) (n : Nat) (xs pl : List Int) (hn : Int.tmod (wrap64 a1) 9 = (n : Int)) (hl : xs.length ≤ 60) (hp : pl.length = xs.length)
    (hpl : ∀ i : Nat, i < xs.length → rd pl (rd (visF xs) (i : Int)) = (i : Int)) :
    ∀ (d i : Nat), xs.length + 1 ≤ i + d → (i = 0 ∨ xs.length < i ∨ rd xs ((i : Int) - 1) < (n : Int)) → Ev (fun k => abugidalaw07_OrderPieces.l2 k a1 true xs pl (i : Int)) true
  | 0, i, h, _ => by
    refine Ev.step (fun k => by simp only [abugidalaw07_OrderPieces.l2, if_neg (show ¬ (i : Int) < (xs.length : Int) by omega)]; rfl) ?_
    exact Ev.now _
  | d + 1, i, h, hlo => by
    by_cases hi : i < xs.length
    · by_cases hx : rd xs (i : Int) < (n : Int)
      · have ih := pcs_l2 a1 n xs pl hn hl hp hpl d (i + 1) (by omega) (.inr (.inr (by rw [show ((i + 1 : Nat) : Int) - 1 = (i : Int) by omega]; exact hx)))
        refine Ev.step (fun k => by simp only [abugidalaw07_OrderPieces.l2, hn, if_pos (show (i : Int) < (xs.length : Int) by omega), if_pos (show (0 : Int) ≤ (i : Int) by omega), if_pos hx, w64n i (by omega)]; rfl) ?_
        exact ih
      · obtain ⟨e, h1, h2, h3, h4⟩ := run_end xs (n : Int) (xs.length - i) i (by omega) (by omega) (by omega)
        obtain ⟨a, B, b, hv, hB, _⟩ := visN_block xs n i e h1 h2 h3 (by
          rcases hlo with h | h | h
          · exact .inl h
          · omega
          · exact .inr h) h4 9 (by omega)
        have hv2 : visF xs = a ++ B ++ b := hv
        have hBl : B.length = e - i := by
          have := hB.length_eq
          simpa using this
        have hvl : (visF xs).length = xs.length := (visN_ok xs 9).1
        have hal : a.length + B.length + b.length = xs.length := by
          rw [← hvl, hv2]; simp [Nat.add_assoc]
        have hat : ∀ t : Nat, (ht : t < B.length) → rd pl B[t] = ((a.length + t : Nat) : Int) := fun t ht => by
          have h5 := hpl (a.length + t) (by omega)
          have e1 : rd (visF xs) ((a.length + t : Nat) : Int) = B[t] := by
            unfold rd
            rw [Int.toNat_natCast, hv2, List.getD_eq_getElem?_getD, List.getElem?_append_left (by simp; omega), List.getElem?_append_right (by omega), show a.length + t - a.length = t by omega, List.getElem?_eq_getElem ht]
            rfl
          rw [e1] at h5
          exact h5
        have hmem : ∀ t : Nat, (ht : t < B.length) → ∃ j : Nat, i ≤ j ∧ j < e ∧ B[t] = (j : Int) := fun t ht => by
          obtain ⟨j, hj, he⟩ := List.mem_map.mp (hB.mem_iff.mp (List.getElem_mem ht))
          rw [List.mem_range'_1] at hj
          exact ⟨j, hj.1, by omega, he.symm⟩
        have hfind : ∀ j : Nat, i ≤ j → j < e → ∃ t, ∃ ht : t < B.length, B[t] = (j : Int) := fun j j1 j2 => by
          have : (j : Int) ∈ B := hB.mem_iff.mpr (List.mem_map.mpr ⟨j, by rw [List.mem_range'_1]; omega, rfl⟩)
          obtain ⟨t, ht, he⟩ := List.mem_iff_getElem.mp this
          exact ⟨t, ht, he⟩
        have hbb : ∀ j : Nat, i ≤ j → j < e → (a.length : Int) ≤ rd pl (j : Int) ∧ rd pl (j : Int) < (a.length : Int) + ((e : Int) - (i : Int)) := fun j j1 j2 => by
          obtain ⟨t, ht, he⟩ := hfind j j1 j2
          have := hat t ht
          rw [he] at this
          omega
        have ih := pcs_l2 a1 n xs pl hn hl hp hpl d (e + 1) (by omega) (by
          rcases h4 with h | h
          · exact .inr (.inl (by omega))
          · exact .inr (.inr (by rw [show ((e + 1 : Nat) : Int) - 1 = (e : Int) by omega]; exact h)))
        have hb0 := hbb i (by omega) h1
        have h3' := pcs_l3 a1 n xs pl i e hn hl hp h1 h2 h3 h4 a.length (by omega) hbb
          (by
            obtain ⟨j, j1, j2, j3⟩ := hmem 0 (by omega)
            have := hat 0 (by omega)
            rw [j3] at this
            exact ⟨j, j1, j2, by rw [this]; omega⟩)
          (by
            obtain ⟨j, j1, j2, j3⟩ := hmem (e - i - 1) (by omega)
            have := hat (e - i - 1) (by omega)
            rw [j3] at this
            exact ⟨j, j1, j2, by rw [this]; omega⟩)
          ih (e - i) i (rd pl (i : Int)) (rd pl (i : Int)) (by omega) (by omega) hb0.1 hb0.2 (by omega) (fun t t1 t2 => by omega)
        refine Ev.step (fun k => by simp only [abugidalaw07_OrderPieces.l2, hn, if_pos (show (i : Int) < (xs.length : Int) by omega), if_pos (show (0 : Int) ≤ (i : Int) by omega), if_neg hx, if_pos (show (i : Int) < (pl.length : Int) by omega)]; rfl) ?_
        exact h3'
    · refine Ev.step (fun k => by simp only [abugidalaw07_OrderPieces.l2, if_neg (show ¬ (i : Int) < (xs.length : Int) by omega)]; rfl) ?_
      exact Ev.now _
/-- l1: the places, and the list seen from behind. -/
theorem pcs_l1 (a1 : Int) (n : Nat) (xs v w : List Int) (hn : Int.tmod (wrap64 a1) 9 = (n : Int)) (hl : xs.length ≤ 60) (hve : visF xs = v) (hv : v.length = xs.length) (hr : ∀ x ∈ v, 0 ≤ x ∧ x < (xs.length : Int)) (hnd : ∀ i j, i < xs.length → j < xs.length → rd v (i : Int) = rd v (j : Int) → i = j)
    (hw : w = v.reverse) :
    ∀ (d j : Nat) (pl : List Int), j + d = xs.length → pl.length = xs.length → (∀ i : Nat, i < j → rd pl (rd v (i : Int)) = (i : Int)) →
    Ev (fun k => abugidalaw07_OrderPieces.l1 k a1 true xs w pl v (v.length : Int) (j : Int)) true
  | 0, j, pl, hj, h1, h4 => by
    refine Ev.step (fun k => by simp only [abugidalaw07_OrderPieces.l1, if_neg (show ¬ (j : Int) < (v.length : Int) by omega)]; rfl) ?_
    exact pcs_l2 a1 n xs pl hn hl h1 (fun i hi => by rw [hve]; exact h4 i (by omega)) (xs.length + 1) 0 (by omega) (.inl rfl)
  | d + 1, j, pl, hj, h1, h4 => by
    have hjl : j < v.length := by omega
    have hx := hr _ (rd_mem v j hjl)
    obtain ⟨y, hy⟩ := Int.eq_ofNat_of_zero_le hx.1
    have hwl : w.length = v.length := by rw [hw, List.length_reverse]
    have hwi : wrap64 (wrap64 ((w.length : Int) - 1) - (j : Int)) = ((v.length - 1 - j : Nat) : Int) := by
      unfold wrap64; omega
    have hwr : rd w ((v.length - 1 - j : Nat) : Int) = rd v (j : Int) := by
      rw [rd_at w _ (by omega), rd_at v j hjl]
      subst hw
      rw [List.getElem_reverse]
      have hk : v.length - 1 - (v.length - 1 - j) = j := by omega
      simp only [hk]
    have ih := pcs_l1 a1 n xs v w hn hl hve hv hr hnd hw d (j + 1) (pl.set y (j : Int)) (by omega) (by rw [List.length_set]; exact h1)
      (fun i hi => by
        have hxi := hr _ (rd_mem v i (by omega))
        obtain ⟨z, hz⟩ := Int.eq_ofNat_of_zero_le hxi.1
        rw [hz]
        show rd (pl.set y (j : Int)) (z : Int) = (i : Int)
        rw [rd_set pl y z _ (by omega)]
        by_cases he : y = z
        · rw [if_pos he]
          have := hnd i j (by omega) (by omega) (by rw [hz, hy, he])
          omega
        · rw [if_neg he]
          have hne : i ≠ j := fun e => by
            rw [e, hy] at hz
            injection hz with hz
            exact he hz
          have h6 := h4 i (by omega)
          rw [hz] at h6
          exact h6)
    have hx1 : ¬ rd v (j : Int) < 0 := by omega
    have hx2 : ¬ rd v (j : Int) ≥ (xs.length : Int) := by omega
    have hx4 : rd v (j : Int) < (pl.length : Int) := by omega
    have hty : (rd v (j : Int)).toNat = y := by rw [hy]; exact Int.toNat_natCast y
    refine Ev.step (fun k => by simp only [abugidalaw07_OrderPieces.l1, if_pos (show (j : Int) < (v.length : Int) by omega), if_pos (show (0 : Int) ≤ (j : Int) by omega), if_neg hx1, if_neg hx2, hwi, if_pos (show (0 : Int) ≤ ((v.length - 1 - j : Nat) : Int) by omega), if_pos (show ((v.length - 1 - j : Nat) : Int) < (w.length : Int) by omega), if_pos hwr, if_pos hx.1, if_pos hx4, hty, w64n j (by omega)]; rfl) ?_
    exact ih
theorem pcs_l0 (a1 : Int) (n : Nat) (hn : Int.tmod (wrap64 a1) 9 = (n : Int)) (l0 : List Int) (hl : l0.length ≤ 60) : ∀ (d j : Nat) (xs : List Int), j + d = l0.length → xs.length = j → (∀ x ∈ xs, 0 ≤ x ∧ x < 8) →
    Ev (fun k => abugidalaw07_OrderPieces.l0 k a1 true xs (xs.map (· + (1 : Int))) (xs.map (· + (2 : Int))) l0 (l0.length : Int) (j : Int)) true
  | 0, j, xs, hj, h1, h2 => by
    have hlen : xs.length ≤ 60 := by omega
    have hvl : (visF xs).length = xs.length := (visN_ok xs 9).1
    have hvr : ∀ x ∈ visF xs, 0 ≤ x ∧ x < (xs.length : Int) := (visN_ok xs 9).2
    have hnd : (visF xs).Nodup := (visN_perm xs 9).nodup_iff.mpr (by
      refine List.pairwise_map.mpr (List.Pairwise.imp ?_ List.nodup_range)
      intro a b hab he
      exact hab (by omega))
    refine Ev.step (fun k => by simp only [abugidalaw07_OrderPieces.l0, if_neg (show ¬ (j : Int) < (l0.length : Int) by omega), order_Visual.f, List.length_map, if_pos (show xs.length ≤ 1000000 by omega), Option.bind_some, visF_up1 xs h2, visF_up2 xs h2, List.length_reverse, if_pos (show ((visF xs).length : Int) = (xs.length : Int) by omega)]; rfl) ?_
    refine Ev.bind (g := fun k => abugidaref07_Equal.f k (visF xs) (visF xs)) (equal_ev _ (by omega)) ?_
    refine Ev.step (fun k => by simp only [abugidalaw07_OrderPieces.j1, Bool.not_true, if_neg (show ¬ (false = true) by decide), if_pos (show (0 : Int) ≤ (xs.length : Int) by omega), Int.toNat_natCast, if_pos (show xs.length ≤ 35184372088832 by omega)]; rfl) ?_
    refine pcs_l1 a1 n xs (visF xs) (visF xs).reverse hn hlen rfl hvl hvr ?_ rfl xs.length 0 (List.replicate xs.length 0) (by omega) (by simp) (fun i hi => by omega)
    intro a b ha hb hab
    rw [rd_at _ a (by omega), rd_at _ b (by omega)] at hab
    rcases Nat.lt_trichotomy a b with h | h | h
    · exact absurd hab (List.pairwise_iff_getElem.mp hnd a b _ _ h)
    · exact h
    · exact absurd hab.symm (List.pairwise_iff_getElem.mp hnd b a _ _ h)
  | d + 1, j, xs, hj, h1, h2 => by
    obtain ⟨r, hr, hr0, hr1⟩ := mod_some (rd l0 (j : Int)) 8 (by omega)
    have ih := pcs_l0 a1 n hn l0 hl d (j + 1) (xs ++ [r]) (by omega) (by simp [h1]) (fun x hx => by
      rcases List.mem_append.mp hx with hx | hx
      · exact h2 x hx
      · rw [List.mem_singleton.mp hx]; exact ⟨hr0, hr1⟩)
    rw [List.map_append, List.map_append] at ih
    have e1 : wrap64 (r + 1) = r + 1 := by unfold wrap64; omega
    have e2 : wrap64 (r + 2) = r + 2 := by unfold wrap64; omega
    refine Ev.step (fun k => by simp only [abugidalaw07_OrderPieces.l0, if_pos (show (j : Int) < (l0.length : Int) by omega), if_pos (show (0 : Int) ≤ (j : Int) by omega), hr, Option.bind_some, List.length_map, if_pos (show xs.length < 17592186044416 by omega), e1, e2, w64n j (by omega)]; rfl) ?_
    exact ih
end Pcs
open Pcs in
theorem OrderPieces : abugidalaw07_OrderPieces.Pure := by
  intro l0 a1 hm hb hw ha
  refine Ev.rounds ?_
  refine Ev.bind (g := fun k => abugidalaw07_sanity.f k) ev_sane ?_
  obtain ⟨m, hmm, hm6, hml⟩ : ∃ n : Nat, mn (l0.length : Int) 60 = (n : Int) ∧ n ≤ 60 ∧ n ≤ l0.length := by
    unfold mn
    split
    · exact ⟨60, rfl, Nat.le_refl _, by omega⟩
    · exact ⟨l0.length, rfl, by omega, Nat.le_refl _⟩
  obtain ⟨n, hn⟩ : ∃ n : Nat, Int.tmod (wrap64 a1) 9 = (n : Int) := by
    have hu := u8_wf ha
    have hw1 : wrap64 a1 = a1 := by unfold wrap64; omega
    rw [hw1]
    exact Int.eq_ofNat_of_zero_le (Int.tmod_nonneg _ hu.1)
  have hlt : (l0.take m).length = m := by rw [List.length_take]; omega
  have h := pcs_l0 a1 n hn (l0.take m) (by omega) m 0 [] (by omega) rfl (fun x hx => by cases hx)
  refine Ev.congr (fun k => ?_) h
  rw [hmm, if_pos (by omega), if_pos (by omega), Int.toNat_natCast]
  rfl
end Go.Proofs.Ytacnckneiklgpaa.Pure

/- OrderApart, the plain part. -/
import Derived.Test.YtacnckneiklgpaaQx26
import Derived.Test.YtacnckneiklgpaaKs
namespace Go.Proofs.Ytacnckneiklgpaa.Pure
open Go.RowKit Go.Proofs.Ytacnckneiklgpaa.Q Go.Proofs.Ytacnckneiklgpaa.Plain Go.Proofs.YtacnckneiklgpaaW.PrintWords Go.Proofs.YtacnckneiklgpaaW.PrintLast Go.Proofs.YtacnckneiklgpaaW.PrintMore
set_option linter.unusedVariables false
namespace Apa
theorem saneK : ∃ k, abugidalaw07_sanity.f k = some true := ⟨300, by decide +kernel⟩
theorem ev_sane : Ev (fun k => abugidalaw07_sanity.f k) true := by
  obtain ⟨k, h⟩ := saneK
  exact Ev.of abugidalaw07_sanity.mono h
theorem strong_in : (List.range 256).all (fun c => abugidaref05_Strong.f 40 (c : Int) == some (strongP (c : Int))) = true := by decide +kernel
theorem ev_strong (s : ByteArray) (i : Int) : Ev (fun k => abugidaref05_Strong.f k (wrap64 (bt s i))) (strongP (bt s i)) := by
  rw [bt255]
  refine Ev.of (abugidaref05_Strong.mono _) (k := 40) ?_
  have hr := bt_range s i
  obtain ⟨c, hc⟩ : ∃ c : Nat, bt s i = (c : Int) := ⟨(bt s i).toNat, by omega⟩
  rw [hc]
  have := List.all_eq_true.mp strong_in c (List.mem_range.mpr (by omega))
  simpa using this
/-- Whether a list has a character of the scripts 1 to 3. -/
def hasS : List Int → Bool
  | [] => false
  | c :: r => (strongP c == 1 || strongP c == 2) || hasS r
theorem base_app (l r : List Int) (h : hasS l = true) : baseL (l ++ r) = baseL l := by
  induction l with
  | nil => cases h
  | cons c l ih =>
    simp only [List.cons_append, baseL]
    by_cases hc : strongP c = 1 ∨ strongP c = 2
    · rw [if_pos hc, if_pos hc]
    · rw [if_neg hc, if_neg hc]
      refine ih ?_
      simp only [hasS, Bool.or_eq_true, beq_iff_eq] at h
      exact h.resolve_left hc
theorem baseL_12 : ∀ l : List Int, baseL l = 1 ∨ baseL l = 2
  | [] => .inl rfl
  | c :: l => by
    unfold baseL
    split
    · assumption
    · exact baseL_12 l
theorem lineL_get (b : Int) : ∀ (cs ds : List Int) (i : Nat), i < ds.length → cs[i]? = some 10 → (lineL b cs ds)[i]? = some b
  | [], ds, i, hd, h => by simp at h
  | c :: cs, [], i, hd, h => by simp at hd
  | c :: cs, d :: ds, 0, hd, h => by
    simp only [List.getElem?_cons_zero, Option.some.injEq] at h
    simp only [lineL, List.getElem?_cons_zero, h]
    rw [if_pos (by decide +kernel)]
  | c :: cs, d :: ds, i + 1, hd, h => by
    simp only [lineL, List.getElem?_cons_succ] at h ⊢
    exact lineL_get b cs ds i (by simpa using hd) h
theorem bytes_app (a b : ByteArray) : bytesOf (a ++ b) = bytesOf a ++ bytesOf b := by
  simp [bytesOf, ByteArray.data_append]
theorem bytes_get (s : ByteArray) (i : Nat) (h : i < s.size) : (bytesOf s)[i]? = some (bt s (i : Int)) := by
  have hl : i < (bytesOf s).length := by rw [bytesOf_length]; exact h
  rw [List.getElem?_eq_getElem hl]
  congr 1
  simp [bytesOf, bt, ByteArray.getElem_eq_getElem_data]
  intro h2
  omega
theorem line_level (A B : ByteArray) : rd (levF (bytesOf (A ++ (⟨#[10]⟩ : ByteArray) ++ B)) (kindsP (A ++ (⟨#[10]⟩ : ByteArray) ++ B))) (A.size : Int) = if baseL (bytesOf (A ++ (⟨#[10]⟩ : ByteArray) ++ B)) = 2 then 1 else 0 := by
  have hsz : (A ++ (⟨#[10]⟩ : ByteArray) ++ B).size = A.size + 1 + B.size := by simp [ByteArray.size_append]; rfl
  have hb : (bytesOf (A ++ (⟨#[10]⟩ : ByteArray) ++ B))[A.size]? = some 10 := by
    rw [bytes_app, bytes_app, List.append_assoc, List.getElem?_append_right (by rw [bytesOf_length]; omega), bytesOf_length, Nat.sub_self]
    rfl
  have h10 : bt (A ++ (⟨#[10]⟩ : ByteArray) ++ B) (A.size : Int) = 10 := by
    have := bytes_get _ A.size (show A.size < (A ++ (⟨#[10]⟩ : ByteArray) ++ B).size by omega)
    rw [hb] at this
    injection this with this
    exact this.symm
  generalize hW : A ++ (⟨#[10]⟩ : ByteArray) ++ B = W at *
  have hk := kindsL_line W W.size A.size (by omega) h10 (spans W) 0 (cov_spans W) (by omega)
  have hd : (dirF (bytesOf W) (kindsP W))[A.size]? = some (baseL (bytesOf W)) := by
    unfold dirF
    refine lineL_get _ _ _ _ ?_ hb
    have hl := dirF_length (bytesOf W) (kindsP W)
    unfold dirF at hl
    rw [lineL_length] at hl
    rw [hl, kindsP_length]
    omega
  unfold rd levF
  rw [Int.toNat_natCast, List.getD_eq_getElem?_getD, List.getElem?_zipWith, hd, show (kindsP W)[A.size]? = some 0 from hk]
  simp only [Option.getD_some]
  rcases baseL_12 (bytesOf W) with h | h
  · rw [h]; rfl
  · rw [h]; rfl
theorem apart_fin (A B : ByteArray) (x5 : Bool) (h5 : x5 = true) (l : List Int) (hl : l.length = A.size + 1 + B.size) (x8 : Int) (h8 : x8 = 0 ∧ rd l (A.size : Int) = 0 ∨ x8 = 1 ∧ rd l (A.size : Int) = 1) :
    (if 0 ≤ (A.size : Int) then (if (A.size : Int) < (l.length : Int) then (if x5 = true then (if x8 = 0 then (if (rd l (A.size : Int)) = 0 then (some true) else (if x8 = 1 then (some ((rd l (A.size : Int)) == 1)) else (some false))) else (if x8 = 1 then (some ((rd l (A.size : Int)) == 1)) else (some false))) else (some false)) else (none)) else (none)) = some true := by
  rw [if_pos (by omega), if_pos (by omega), if_pos h5]
  rcases h8 with ⟨h, h2⟩ | ⟨h, h2⟩
  · rw [if_pos h, if_pos h2]
  · rw [if_neg (by omega), if_pos h, h2]; rfl
theorem apart_l0 (A B : ByteArray) (hA : A.size ≤ 60) (hB : B.size ≤ 60) (x8 : Int) (l : List Int) (hl : l.length = A.size + 1 + B.size)
    (hx8 : x8 = if baseL (bytesOf (A ++ (⟨#[10]⟩ : ByteArray) ++ B)) = 2 then 1 else 0) (hr : rd l (A.size : Int) = if baseL (bytesOf (A ++ (⟨#[10]⟩ : ByteArray) ++ B)) = 2 then 1 else 0) :
    ∀ (d i : Nat) (st : Bool), i + d = A.size → st = hasS ((bytesOf A).take i) → Ev (fun k => abugidalaw07_OrderApart.l0 k A B true l x8 st (i : Int)) true
  | 0, i, st, hi, hst => by
    have e10 : (⟨#[10]⟩ : ByteArray).size = 1 := rfl
    have hsz : (A ++ (⟨#[10]⟩ : ByteArray)).size = A.size + 1 := by rw [ByteArray.size_append]; rfl
    have hsz2 : (A ++ (⟨#[10]⟩ : ByteArray) ++ B).size = A.size + 1 + B.size := by rw [ByteArray.size_append, hsz]
    have h8 : x8 = 0 ∧ rd l (A.size : Int) = 0 ∨ x8 = 1 ∧ rd l (A.size : Int) = 1 := by
      rw [hx8, hr]
      split
      · exact .inr ⟨rfl, rfl⟩
      · exact .inl ⟨rfl, rfl⟩
    have hfin := apart_fin A B true rfl l hl x8 h8
    cases st with
    | false =>
      refine Ev.step (fun k => by rw [abugidalaw07_OrderApart.l0, if_neg (show ¬ (i : Int) < (A.size : Int) by omega), if_neg (show ¬ (false = true) by decide), hfin]) ?_
      exact Ev.now _
    | true =>
      have hall : hasS (bytesOf A) = true := by
        rw [List.take_of_length_le (by rw [bytesOf_length]; omega)] at hst
        exact hst.symm
      have hbe : baseL (bytesOf (A ++ (⟨#[10]⟩ : ByteArray) ++ B)) = baseL (bytesOf A) := by
        rw [bytes_app, bytes_app, List.append_assoc, base_app _ _ hall]
      have hne : ¬ ((baseL (bytesOf A) == 2) != (baseL (bytesOf (A ++ (⟨#[10]⟩ : ByteArray) ++ B)) == 2)) = true := by
        rw [hbe]
        simp
      refine Ev.step (fun k => by rw [abugidalaw07_OrderApart.l0, if_neg (show ¬ (i : Int) < (A.size : Int) by omega), if_pos rfl, order_Right.f, order_base.f, if_pos (show A.size ≤ 9223372036854775807 by omega), Option.bind_some, Option.bind_some, if_pos (show A.size + 1 ≤ 9223372036854775807 by omega), if_pos (show (A ++ (⟨#[10]⟩ : ByteArray)).size + B.size ≤ 9223372036854775807 by omega), order_Right.f, order_base.f, if_pos (show (A ++ (⟨#[10]⟩ : ByteArray) ++ B).size ≤ 9223372036854775807 by omega), Option.bind_some, Option.bind_some, if_neg hne, hfin]) ?_
      exact Ev.now _
  | d + 1, i, st, hi, hst => by
    have hil : i < (bytesOf A).length := by rw [bytesOf_length]; omega
    have hget := bytes_get A i (by omega)
    have htk : ∀ (l : List Int) (j : Nat) (c : Int), l[j]? = some c → hasS (l.take (j + 1)) = (hasS (l.take j) || (strongP c == 1 || strongP c == 2)) := by
      intro l
      induction l with
      | nil => intro j c h; simp at h
      | cons y l ih =>
        intro j c h
        cases j with
        | zero =>
          simp only [List.getElem?_cons_zero, Option.some.injEq] at h
          subst h
          simp [hasS]
        | succ j =>
          simp only [List.getElem?_cons_succ] at h
          simp only [List.take_succ_cons, hasS, ih j c h, Bool.or_assoc]
    have hst2 := htk _ i _ hget
    rw [← hst] at hst2
    have ih := apart_l0 A B hA hB x8 l hl hx8 hr d (i + 1) (st || (strongP (bt A (i : Int)) == 1 || strongP (bt A (i : Int)) == 2)) (by omega) hst2.symm
    refine Ev.step (fun k => by rw [abugidalaw07_OrderApart.l0, if_pos (show (i : Int) < (A.size : Int) by omega), if_pos (show (0 : Int) ≤ (i : Int) by omega), w64 ((i : Int) + 1) (by omega) (by omega)]) ?_
    refine Ev.bind (g := fun k => abugidaref05_Strong.f k (wrap64 (bt A (i : Int)))) (ev_strong A _) ?_
    generalize strongP (bt A (i : Int)) = c at ih ⊢
    cases st with
    | true => exact ih
    | false =>
      by_cases h1 : c = 1
      · subst h1
        exact Ev.congr (fun k => by rw [if_neg (by decide), if_pos rfl]; rfl) ih
      · rw [Bool.false_or, show (c == 1) = false by simpa using h1, Bool.false_or] at ih
        exact Ev.congr (fun k => by rw [if_neg (by decide), if_neg h1]; rfl) ih
end Apa
open Apa in
theorem OrderApart : abugidalaw07_OrderApart.Pure := by
  intro a0 a1 h0 h1
  refine Ev.rounds ?_
  refine Ev.bind (g := fun k => abugidalaw07_sanity.f k) ev_sane ?_
  have cut : ∀ a : ByteArray, ∃ n : Nat, mn (a.size : Int) 60 = (n : Int) ∧ n ≤ 60 ∧ n ≤ a.size := fun a => by
    unfold mn
    split
    · exact ⟨60, rfl, Nat.le_refl _, by omega⟩
    · exact ⟨a.size, rfl, by omega, Nat.le_refl _⟩
  obtain ⟨n, hn, hn6, hnl⟩ := cut a0
  obtain ⟨m, hm, hm6, hml⟩ := cut a1
  have hA : (a0.extract 0 n).size = n := by rw [ByteArray.size_extract]; omega
  have hB : (a1.extract 0 m).size = m := by rw [ByteArray.size_extract]; omega
  rw [hn, hm]
  simp only [Int.toNat_natCast]
  generalize a0.extract 0 n = A at *
  generalize a1.extract 0 m = B at *
  have hsz : (A ++ (⟨#[10]⟩ : ByteArray)).size = A.size + 1 := by rw [ByteArray.size_append]; rfl
  have hsz2 : (A ++ (⟨#[10]⟩ : ByteArray) ++ B).size = A.size + 1 + B.size := by rw [ByteArray.size_append, hsz]
  have hll := levF_length (A ++ (⟨#[10]⟩ : ByteArray) ++ B)
  have hlA := levF_length A
  have hlv := line_level A B
  have c1 : (0 : Int) ≤ (n : Int) := by omega
  have c2 : (n : Int) ≤ (a0.size : Int) := by omega
  have c3 : (0 : Int) ≤ (m : Int) := by omega
  have c4 : (m : Int) ≤ (a1.size : Int) := by omega
  have c5 : A.size + 1 ≤ 9223372036854775807 := by omega
  have c6 : (A ++ (⟨#[10]⟩ : ByteArray)).size + B.size ≤ 9223372036854775807 := by omega
  have c7 : (A ++ (⟨#[10]⟩ : ByteArray) ++ B).size ≤ 250 := by omega
  have c8 : A.size ≤ 250 := by omega
  have c9 : (A ++ (⟨#[10]⟩ : ByteArray) ++ B).size ≤ 9223372036854775807 := by omega
  have c10 : A.size ≤ 60 := by omega
  have c11 : B.size ≤ 60 := by omega
  have c12 : ((levF (bytesOf (A ++ (⟨#[10]⟩ : ByteArray) ++ B)) (kindsP (A ++ (⟨#[10]⟩ : ByteArray) ++ B))).length : Int) = (A.size : Int) + 1 + (B.size : Int) := by omega
  have hw : wrap64 (wrap64 ((A.size : Int) + 1) + (B.size : Int)) = (A.size : Int) + 1 + (B.size : Int) := by
    rw [w64 ((A.size : Int) + 1) (by omega) (by omega), w64 _ (by omega) (by omega)]
  refine Ev.congr (fun k => by rw [if_pos c1, if_pos c2, if_pos c3, if_pos c4, if_pos c5, if_pos c6, order_Levels.f, levels_f _ c7, Option.bind_some, order_Levels.f, levels_f A c8, Option.bind_some, hw, if_pos c12, hlA, bne_self_eq_false]) ?_
  refine Ev.step (fun k => by rw [abugidalaw07_OrderApart.j0, if_neg (show ¬ (false = true) by decide), if_pos c5, if_pos c6, order_Right.f, order_base.f, if_pos c9, Option.bind_some, Option.bind_some]) ?_
  by_cases h2 : baseL (bytesOf (A ++ (⟨#[10]⟩ : ByteArray) ++ B)) = 2
  · refine Ev.congr (fun k => by rw [if_pos (show (baseL (bytesOf (A ++ (⟨#[10]⟩ : ByteArray) ++ B)) == 2) = true by rw [h2]; rfl)]) ?_
    refine Ev.step (fun k => by rw [abugidalaw07_OrderApart.j1]) ?_
    exact apart_l0 A B c10 c11 1 _ (by rw [hll, hsz2]) (by rw [if_pos h2]) hlv A.size 0 false (Nat.zero_add _) (by simp [hasS])
  · refine Ev.congr (fun k => by rw [if_neg (show ¬ (baseL (bytesOf (A ++ (⟨#[10]⟩ : ByteArray) ++ B)) == 2) = true by simpa using h2)]) ?_
    refine Ev.step (fun k => by rw [abugidalaw07_OrderApart.j1]) ?_
    exact apart_l0 A B c10 c11 0 _ (by rw [hll, hsz2]) (by rw [if_neg h2]) hlv A.size 0 false (Nat.zero_add _) (by simp [hasS])
end Go.Proofs.Ytacnckneiklgpaa.Pure

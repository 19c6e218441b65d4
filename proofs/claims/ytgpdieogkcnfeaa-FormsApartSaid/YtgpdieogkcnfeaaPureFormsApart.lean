/- FormsApart: the forms before and after a space, an end of a line, or punctuation are those of the parts alone. For all numbers. -/
import Derived.Test.YtgpdieogkcnfeaaQx19
import Derived.Test.YtgpdieogkcnfeaaApt
namespace Go.Proofs.Ytgpdieogkcnfeaa.Pure
open Go.RowKit Go.Proofs.Ytgpdieogkcnfeaa.Q Go.Proofs.Ytgpdieogkcnfeaa.Plain Go.Proofs.YtgpdieogkcnfeaaW.PrintWords Go.Proofs.YtgpdieogkcnfeaaW.PrintLast

def okc (x : UInt8) : Bool := !(hext (x.toNat : Int)) && hcls (x.toNat : Int) != 9 && hcls (x.toNat : Int) != 10 && hcls (x.toNat : Int) != 7 && hcls (x.toNat : Int) != 8
theorem okc_all : okc 32 = true ∧ okc 10 = true ∧ okc 33 = true ∧ okc 45 = true := by decide +kernel
theorem okc_h : hext 104 = false := by decide +kernel

theorem between_ok (s t : ByteArray) (x : UInt8) (h : okc x = true) (ht : 0 < t.size → hext (bt t 0) = false) : tforms (s ++ ⟨#[x]⟩ ++ t) = tforms s ++ 0 :: tforms t := by
  unfold okc at h
  simp only [Bool.and_eq_true, Bool.not_eq_true', bne_iff_ne] at h
  obtain ⟨⟨⟨⟨h1, h2⟩, h3⟩, h4⟩, h5⟩ := h
  exact forms_between s t x h1 h2 h3 h4 h5 ht

theorem pick (w : Int) (hw : (Lit.int .u8 w).wf = true) : 0 ≤ Int.tmod w 4 ∧ Int.tmod w 4 < 4 ∧ ∃ x : UInt8, okc x = true ∧ rdOf ByteArray.empty ([(⟨#[32]⟩ : ByteArray), (⟨#[10]⟩ : ByteArray), (⟨#[33]⟩ : ByteArray), (⟨#[45]⟩ : ByteArray)] : List ByteArray) (Int.tmod w 4) = ⟨#[x]⟩ := by
  have h : (decide (IntKind.u8.min ≤ w) && decide (w ≤ IntKind.u8.max)) = true := hw
  rw [Bool.and_eq_true, decide_eq_true_eq, decide_eq_true_eq] at h
  have h1 : IntKind.u8.min = 0 := by decide
  rw [h1] at h
  rw [Int.tmod_eq_emod_of_nonneg h.1]
  obtain ⟨o1, o2, o3, o4⟩ := okc_all
  have h0 : 0 ≤ w % 4 := Int.emod_nonneg _ (by omega)
  have h4 : w % 4 < 4 := Int.emod_lt_of_pos _ (by omega)
  refine ⟨h0, h4, ?_⟩
  have c : w % 4 = 0 ∨ w % 4 = 1 ∨ w % 4 = 2 ∨ w % 4 = 3 := by omega
  rcases c with c | c | c | c <;> rw [c]
  · exact ⟨32, o1, rfl⟩
  · exact ⟨10, o2, rfl⟩
  · exact ⟨33, o3, rfl⟩
  · exact ⟨45, o4, rfl⟩

theorem w_facts (n m : Nat) (hn : n ≤ 30) (hm : m ≤ 31) : wrap64 ((n : Int) + 1) = (n : Int) + 1 ∧ wrap64 ((n : Int) + 1 + (m : Int)) = (n : Int) + 1 + (m : Int) ∧ (0 : Int) ≤ (n : Int) ∧ (n : Int) ≤ (n : Int) + 1 + (m : Int) ∧ (n : Int) < (n : Int) + 1 + (m : Int) ∧ (0 : Int) ≤ (n : Int) + 1 ∧ (n : Int) + 1 ≤ (n : Int) + 1 + (m : Int) ∧ ((n : Int) + 1).toNat = n + 1 :=
  ⟨w64 _ (by omega) (by omega), w64 _ (by omega) (by omega), by omega, by omega, by omega, by omega, by omega, by omega⟩

theorem len_mid (A B : List Int) : ((A ++ 0 :: B).length : Int) = (A.length : Int) + 1 + (B.length : Int) := by rw [List.length_append, List.length_cons]; omega

theorem apart_j1 (s t : ByteArray) (hs : s.size ≤ 30) (ht : t.size ≤ 31) (he : 0 < t.size → hext (bt t 0) = false) (w : Int) (hw : (Lit.int .u8 w).wf = true) : Ev (fun k => abugidalaw17_FormsApart.j1 k w true s t) true := by
  obtain ⟨p0, p4, x, ox, px⟩ := pick w hw
  obtain ⟨u, hu⟩ : ∃ u : ByteArray, u = ⟨#[x]⟩ := ⟨_, rfl⟩
  have hus : u.size = 1 := by rw [hu]; rfl
  have hfs := spans_length s
  have hft := spans_length t
  have hF := between_ok s t x ox he
  rw [← hu] at hF
  have h1 : (s ++ u).size = s.size + 1 := by rw [ByteArray.size_append, hus]
  have z1 : s.size + u.size ≤ 9223372036854775807 := by omega
  have z2 : (s ++ u).size + t.size ≤ 9223372036854775807 := by omega
  obtain ⟨A, hA⟩ : ∃ A, A = tforms s := ⟨_, rfl⟩
  obtain ⟨B, hB⟩ : ∃ B, B = tforms t := ⟨_, rfl⟩
  have hAl : A.length ≤ 30 := by rw [hA, tforms_length]; omega
  have hBl : B.length ≤ 31 := by rw [hB, tforms_length]; omega
  have evs := ev_forms s (by omega)
  have evt := ev_forms t (by omega)
  have evu := ev_forms (s ++ u ++ t) (by rw [ByteArray.size_append, h1]; omega)
  rw [hF] at evu
  rw [← hA] at evs evu
  rw [← hB] at evt evu
  have hl := len_mid A B
  obtain ⟨e1, e2, q1, q2, q3, q4, q5, q6⟩ := w_facts A.length B.length hAl hBl
  have e3 : (A ++ 0 :: B).take A.length = A := by simp
  have e4 : (A ++ 0 :: B).drop (((A.length : Int) + 1).toNat) = B := by
    rw [q6]
    simp
  have e5 : rd (A ++ 0 :: B) (A.length : Int) = 0 := by
    unfold rd
    simp
  have p4' : Int.tmod w 4 < ((4 : Nat) : Int) := p4
  refine Ev.step (fun k => by simp only [abugidalaw17_FormsApart.j1, Option.bind_some, px, ← hu, if_pos p0, List.length_cons, List.length_nil, Nat.reduceAdd, if_pos p4', if_pos z1, if_pos z2]; rfl) ?_
  refine Ev.bind evs ?_
  refine Ev.bind evt ?_
  refine Ev.bind evu ?_
  simp only [hl, e1, e2, if_true, Int.toNat_natCast, e3, e4, e5, if_pos q1, if_pos q2, if_pos q3, if_pos q4, if_pos q5]
  refine Ev.bind (ev_is A (Nat.le_trans hAl (by decide))) ?_
  simp only [if_true]
  exact Ev.bind (ev_is B (Nat.le_trans hBl (by decide))) (Ev.now _)

theorem FormsApart : abugidalaw17_FormsApart.Pure := by
  intro l m w _ _ hwl _ _ hwm hww
  obtain ⟨s, hs, h30⟩ := ev_text l hwl 30 (by omega)
  obtain ⟨t, ht, h30'⟩ := ev_text m hwm 30 (by omega)
  refine Ev.rounds ?_
  unfold abugidalaw17_FormsApart.f
  refine Ev.bind ev_sanity ?_
  refine Ev.bind hs ?_
  refine Ev.bind ht ?_
  by_cases h0 : 0 < t.size
  · simp only [if_pos (show (t.size : Int) > 0 by omega)]
    refine Ev.bind (ev_ext t 0) ?_
    cases he : hext (bt t 0) with
    | false =>
      refine Ev.step (fun k => by simp only [abugidalaw17_FormsApart.j0, Bool.false_eq_true, if_false]; rfl) ?_
      exact apart_j1 s t h30 (by omega) (fun _ => he) w hww
    | true =>
      refine Ev.step (fun k => by simp only [abugidalaw17_FormsApart.j0, if_true, if_pos (show 1 + t.size ≤ 9223372036854775807 by omega)]; rfl) ?_
      refine apart_j1 s _ h30 (by rw [ByteArray.size_append]; show 1 + t.size ≤ 31; omega) (fun _ => ?_) w hww
      rw [bt_left (⟨#[104]⟩ : ByteArray) t 0 (by omega) (by decide)]
      exact okc_h
  · simp only [if_neg (show ¬ (t.size : Int) > 0 by omega)]
    refine Ev.step (fun k => by simp only [abugidalaw17_FormsApart.j0, Bool.false_eq_true, if_false]; rfl) ?_
    exact apart_j1 s t h30 (by omega) (fun h => absurd h h0) w hww

end Go.Proofs.Ytgpdieogkcnfeaa.Pure

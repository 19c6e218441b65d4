/- FormsTell: forms are those of the reference. For all numbers and every string. -/
import Derived.Test.YtgpdieogkcnfeaaQx13
import Derived.Test.YtgpdieogkcnfeaaAre
namespace Go.Proofs.Ytgpdieogkcnfeaa.Pure
open Go.RowKit Go.Proofs.Ytgpdieogkcnfeaa.Q Go.Proofs.Ytgpdieogkcnfeaa.Plain Go.Proofs.YtgpdieogkcnfeaaW.PrintWords Go.Proofs.YtgpdieogkcnfeaaW.PrintLast

theorem ev_tell (s : ByteArray) (hs : s.size ≤ 1000) {β : Type} (g : Nat → Bool → Option β) (r : β) (h : Ev (fun k => g k true) r) :
    Ev (fun k => (forms_Forms.f k s).bind fun a => (abugidaref17_Forms.f k s).bind fun b => (abugidalaw17_is.f k a b).bind fun t => g k t) r := by
  refine Ev.bind (ev_forms s hs).1 ?_
  refine Ev.bind (ev_forms s hs).2 ?_
  refine Ev.bind (ev_is (tforms s) (by rw [tforms_length]; have := spans_length s; omega)) h

theorem FormsTell : abugidalaw17_FormsTell.Pure := by
  intro l s _ _ hwf _
  obtain ⟨t, ht, h60⟩ := ev_text l hwf 60 (by omega)
  refine Ev.rounds ?_
  unfold abugidalaw17_FormsTell.f
  have hmn : mn (s.size : Int) 100 = min (s.size : Int) 100 := by unfold mn; omega
  obtain ⟨u, hu⟩ : ∃ u, u = s.extract 0 ((mn (s.size : Int) 100 : Int).toNat) := ⟨_, rfl⟩
  have hus : u.size ≤ 100 := by rw [hu, ByteArray.size_extract, hmn]; omega
  refine Ev.bind ev_sanity ?_
  simp only [← hu]
  simp only [if_pos (show 0 ≤ mn (s.size : Int) 100 by omega), if_pos (show mn (s.size : Int) 100 ≤ (s.size : Int) by omega)]
  refine Ev.bind ht ?_
  simp only [if_true]
  refine ev_tell t (by omega) _ _ ?_
  simp only [if_true]
  exact ev_tell u (by omega) _ _ (Ev.now _)

end Go.Proofs.Ytgpdieogkcnfeaa.Pure

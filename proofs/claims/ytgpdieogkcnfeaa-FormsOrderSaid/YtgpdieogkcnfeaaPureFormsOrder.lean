/- FormsOrder: the order of characters is that of the reference, for clusters and any spans. For all numbers, every string, every span. -/
import Derived.Test.YtgpdieogkcnfeaaQx15
import Derived.Test.YtgpdieogkcnfeaaOrd
namespace Go.Proofs.Ytgpdieogkcnfeaa.Pure
open Go.RowKit Go.Proofs.Ytgpdieogkcnfeaa.Q Go.Proofs.Ytgpdieogkcnfeaa.Plain Go.Proofs.YtgpdieogkcnfeaaW.PrintWords Go.Proofs.YtgpdieogkcnfeaaW.PrintLast

theorem order_l0 (s : ByteArray) (hs : s.size ≤ 400) (L : List S29) (hL : L.length ≤ 1000) (d : Nat) : ∀ i : Nat, i + d = L.length → Ev (fun k => abugidalaw17_FormsOrder.l0 k true s L i) true := by
  induction d with
  | zero =>
    intro i hi
    refine Ev.step (fun k => by simp only [abugidalaw17_FormsOrder.l0, if_neg (show ¬ (i : Int) < (L.length : Int) by omega)]; rfl) ?_
    exact Ev.now _
  | succ d ih =>
    intro i hi
    have hw : wrap64 ((i : Int) + 1) = ((i + 1 : Nat) : Int) := by rw [w64 _ (by omega) (by omega)]; omega
    obtain ⟨P, hP, p1, p2⟩ := ev_order s hs ((rd_T29 L (i : Int)).f0) ((rd_T29 L (i : Int)).f1)
    refine Ev.step (fun k => by simp only [abugidalaw17_FormsOrder.l0, if_pos (show (i : Int) < (L.length : Int) by omega), if_pos (show (0 : Int) ≤ i by omega), hw]; rfl) ?_
    refine Ev.bind p1 ?_
    refine Ev.bind p2 ?_
    refine Ev.bind (ev_is P hP) ?_
    simp only [if_true]
    exact ih (i + 1) (by omega)

theorem FormsOrder : abugidalaw17_FormsOrder.Pure := by
  intro l s x y _ _ hwf _ _ _
  obtain ⟨t, ht, h60⟩ := ev_text l hwf 60 (by omega)
  refine Ev.rounds ?_
  unfold abugidalaw17_FormsOrder.f
  have hmn : mn (s.size : Int) 100 = min (s.size : Int) 100 := by unfold mn; omega
  obtain ⟨u, hu⟩ : ∃ u, u = s.extract 0 ((mn (s.size : Int) 100 : Int).toNat) := ⟨_, rfl⟩
  have hus : u.size ≤ 100 := by rw [hu, ByteArray.size_extract, hmn]; omega
  have htu : (t ++ u).size ≤ 160 := by rw [ByteArray.size_append]; omega
  have hsp := spans_length (t ++ u)
  refine Ev.bind ev_sanity ?_
  refine Ev.bind ht ?_
  simp only [← hu]
  simp only [if_pos (show 0 ≤ mn (s.size : Int) 100 by omega), if_pos (show mn (s.size : Int) 100 ≤ (s.size : Int) by omega), if_pos (show t.size + u.size ≤ 9223372036854775807 by omega), split_spans (t ++ u) (by omega), Option.bind_some]
  simp only [List.length_cons, List.length_nil, if_pos (show (spans (t ++ u)).length + (0 + 1 + 1) < 8796093022208 by omega)]
  exact order_l0 (t ++ u) (by omega) _ (by rw [List.length_append, List.length_cons, List.length_cons, List.length_nil]; omega) _ 0 (Nat.zero_add _)

end Go.Proofs.Ytgpdieogkcnfeaa.Pure

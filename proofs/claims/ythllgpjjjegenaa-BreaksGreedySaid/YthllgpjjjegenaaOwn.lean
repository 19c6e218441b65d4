/- What the laws about lines lean on: small numbers, a list held against itself, the examples. -/
import Derived.Test.YthllgpjjjegenaaQx7
namespace Go.Proofs.Ythllgpjjjegenaa.Plain
open Go.RowKit Go.Proofs.Ythllgpjjjegenaa.Q Go.Proofs.YthllgpjjjegenaaW.PrintWords Go.Proofs.YthllgpjjjegenaaW.PrintLast

theorem w64 (x : Int) (h0 : -1000000000 ≤ x) (h1 : x ≤ 1000000000) : wrap64 x = x := by unfold wrap64; omega

theorem ev_ints_l0 (L : List Int) (hL : L.length ≤ 1000) (d : Nat) : ∀ i : Nat, i + d = L.length → Ev (fun k => abugidaref02_SameInts.l0 k L L i) true := by
  induction d with
  | zero =>
    intro i hi
    refine Ev.step (fun k => by simp only [abugidaref02_SameInts.l0, if_neg (show ¬ (i : Int) < (L.length : Int) by omega)]; rfl) ?_
    exact Ev.now _
  | succ d ih =>
    intro i hi
    have hw : wrap64 ((i : Int) + 1) = ((i + 1 : Nat) : Int) := by rw [w64 _ (by omega) (by omega)]; omega
    refine Ev.step (fun k => by simp only [abugidaref02_SameInts.l0, if_pos (show (i : Int) < (L.length : Int) by omega), if_pos (show (0 : Int) ≤ i by omega), if_true, hw]; rfl) ?_
    exact ih (i + 1) (by omega)

theorem ev_is (L : List Int) (hL : L.length ≤ 1000) : Ev (fun k => abugidalaw08_is.f k L L) true := by
  unfold abugidalaw08_is.f abugidaref02_SameInts.f
  simp only [if_true]
  exact Ev.bind (ev_ints_l0 L hL L.length 0 (Nat.zero_add _)) (Ev.now _)

theorem sanity_true : abugidalaw08_sanity.f 100 = some true := by decide +kernel

theorem ev_sanity : Ev (fun k => abugidalaw08_sanity.f k) true := Ev.of abugidalaw08_sanity.mono sanity_true

end Go.Proofs.Ythllgpjjjegenaa.Plain

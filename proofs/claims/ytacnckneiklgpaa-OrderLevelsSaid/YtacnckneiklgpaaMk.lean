/- Marks of ranges over functions that are over; small laws on things of one's own. -/
import Derived.Test.YtacnckneiklgpaaPw
import Derived.IntWalk
import Derived.Test.YtacnckneiklgpaaWApart
namespace Go.Proofs.Ytacnckneiklgpaa.Q
open Go.RowKit Go.Proofs.YtacnckneiklgpaaW.PrintWords Go.Proofs.YtacnckneiklgpaaW.PrintLast Go.Proofs.YtacnckneiklgpaaW.PrintMore
set_option linter.unusedSimpArgs false
set_option linter.unusedVariables false
/-- The mark of a range over a function that is over; what lies in its block. -/
def markD (D : Nat) : Deferred := { target := .collected D, args := #[] }
def keptD (Ds : List Nat) (k : Nat) (o : Obj) : Prop := k ∈ Ds ∧ o = .deferred (some [])
/-- On the way out the marks are taken up. -/
theorem leaves_marks {F : Fence} {n : Nat} {P : Program} {fn : Func} {tmps : Array Value} {R : Ending → World → Prop} {w : World} {L : List Res} (hfin : ∀ W', Own w W' L → ∃ v, (results fn tmps).run P W' = .ok v W' ∧ R (.returned v) W') :
    ∀ (Ds : List Nat) (W : World), Own w W L (keptD Ds) → Ds.Nodup → (∀ D ∈ Ds, w.heap.size ≤ D) → LeavesInM F n P fn tmps R (Ds.map markD) .returning W
  | [], W, h, _, _ => hfin W (h.keep (fun _ _ hk => hk.elim))
  | D :: Ds, W, h, hn, hD => by
    have h1 := (h.keeps D _ ⟨List.mem_cons_self, rfl⟩)
    rw [List.nodup_cons] at hn
    refine ⟨by simp, .inl ⟨D, _, rfl, run_takeDeferred h1.1, leaves_marks hfin Ds _ ?_ hn.2 (fun D' h' => hD D' (List.mem_cons_of_mem _ h'))⟩⟩
    refine (h.keep (K' := keptD Ds) (fun k o hk => h.keeps k o ⟨List.mem_cons_of_mem _ hk.1, hk.2⟩)).other (grownBy_putObj' W D _) (fun r e => ?_)
    cases e
    exact ⟨hD D List.mem_cons_self, fun o ho => hn.1 ho.1, _, h1.1, h1.2⟩
section
variable {w W : World} {L : List Res} {K : Nat → Obj → Prop}
/-- A box and a row lie apart; two rows lie apart; two boxes lie apart. -/
theorem Own.box_row {α : Type} {d : Kd α} {e B g t : Nat} {cs : Array Value} {v : Value} {xs : List α} (h : Own w W L K) (i j : Nat) (hij : i ≠ j) (hi : L[i]? = some (.box g t cs)) (hj : L[j]? = some (.row d e B v xs)) (k : Nat) (hk : v.ownBlock = some k) : g ≠ k := by
  obtain ⟨_, _, F, h2⟩ := h
  intro hgk
  subst hgk
  exact hij ((h2 i _ hi).1.2.symm.trans ((h2 j _ hj).1 g hk).2)
theorem Own.row_row {α β : Type} {d : Kd α} {d2 : Kd β} {e e2 B B2 : Nat} {v v2 : Value} {xs : List α} {ys : List β} (h : Own w W L K) (i j : Nat) (hij : i ≠ j) (hi : L[i]? = some (.row d e B v xs)) (hj : L[j]? = some (.row d2 e2 B2 v2 ys)) (k k2 : Nat) (hk : v.ownBlock = some k) (hk2 : v2.ownBlock = some k2) : k ≠ k2 := by
  obtain ⟨_, _, F, h2⟩ := h
  intro hgk
  subst hgk
  exact hij (((h2 i _ hi).1 k hk).2.symm.trans ((h2 j _ hj).1 k hk2).2)
theorem Own.box_box {g t g2 t2 : Nat} {cs cs2 : Array Value} (h : Own w W L K) (i j : Nat) (hij : i ≠ j) (hi : L[i]? = some (.box g t cs)) (hj : L[j]? = some (.box g2 t2 cs2)) : g ≠ g2 := by
  obtain ⟨_, _, F, h2⟩ := h
  intro hgk
  subst hgk
  exact hij ((h2 i _ hi).1.2.symm.trans (h2 j _ hj).1.2)
theorem Own.row_block {α : Type} {d : Kd α} {e B : Nat} {v : Value} {xs : List α} (h : Own w W L K) (i : Nat) (hi : L[i]? = some (.row d e B v xs)) (k : Nat) (hk : v.ownBlock = some k) : w.heap.size ≤ k ∧ k < W.heap.size := by
  obtain ⟨_, _, F, h2⟩ := h
  exact ⟨((h2 i _ hi).1 k hk).1, Kd.R_lt (h2 i _ hi) k hk⟩
theorem Own.row_head {α : Type} {d : Kd α} {e B n c : Nat} {ad : Addr} {xs : List α} (h : Own w W L K) (i : Nat) (hi : L[i]? = some (.row d e B (.slice (some ad) n c) xs)) : ∃ g, ad = ⟨g, 0, none⟩ := by
  obtain ⟨_, _, F, h2⟩ := h
  exact Kd.R_head (h2 i _ hi)
end
/-- A row of ints that is read, where its block is as it was. -/
theorem intC_keep {w W : World} {A : Option Addr} {n : Nat} {xs : List Int} (h : (Kd.int .i64).C w A n xs) (hk : ∀ ad, 0 < n → A = some ad → W.heap[ad.block]? = w.heap[ad.block]?) : (Kd.int .i64).C W A n xs := by
  refine ⟨h.1, h.2.1, fun hn => ?_⟩
  obtain ⟨ad, hA, hc⟩ := h.2.2 hn
  refine ⟨ad, hA, fun j p hj => ?_⟩
  obtain ⟨c, h1, h2, h3⟩ := hc j p hj
  refine ⟨c, h1, h2, fun i u hu => ?_⟩
  have h4 := h3 i u hu
  have hb : (ad.add (j * (Kd.int IntKind.i64).sz + i)).block = ad.block := by unfold Addr.add; split <;> rfl
  unfold World.cell? at h4 ⊢
  rw [hb] at h4 ⊢
  rw [hk ad hn hA]
  exact h4
end Go.Proofs.Ytacnckneiklgpaa.Q

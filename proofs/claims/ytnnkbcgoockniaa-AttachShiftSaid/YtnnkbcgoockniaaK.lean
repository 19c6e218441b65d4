/- Rows of elements that lead to old memory; rows that grow in a region that draws. -/
import Derived.Test.YtnnkbcgoockniaaF
namespace Go.Proofs.YtnnkbcgoockniaaW.PrintWords
open Go.RowKit Go.Shelf
/-- An element as it was told at a world: its own rows are old. -/
def Kd.old {α : Type} (d : Kd α) (w0 : World) : Kd α where
  sz := d.sz
  E := []
  K := fun _ x cs => d.K w0 x cs
  M := fun _ _ _ x cs => d.K w0 x cs
  K_len := fun h => d.K_len h
  K_one := fun h u hu => d.K_one h u hu
  K_below := fun _ h => h
  K_of_M := fun h => h
  M_mono := fun _ h => h
  M_bound := fun h => h
  M_move := fun _ h => h
  M_lower := fun _ h => h
theorem Kd.C_old {α : Type} {d : Kd α} {w0 w : World} {A : Option Addr} {n : Nat} {xs : List α} (h : (Kd.old d w0).C w A n xs) (hb : Below w0.heap.size w0 w) : d.C w A n xs :=
  ReadsRow.imp_ h (Below.refl _ _) (fun _ _ hp => d.K_below hb hp)
end Go.Proofs.YtnnkbcgoockniaaW.PrintWords
namespace Go.Proofs.Ytnnkbcgoockniaa.Q
open Go.RowKit Go.Shelf Go.Proofs.YtnnkbcgoockniaaW.PrintWords Go.Proofs.YtnnkbcgoockniaaW.PrintLast Go.Proofs.YtnnkbcgoockniaaW.PrintMore
set_option linter.unusedSimpArgs false
set_option linter.unusedVariables false

/-- append of a row, as a step of a region that draws. -/
theorem ev_rows_step_ {P : Program} {ops : Array Oper} {o : Oper} {a : Act} {Q : Exit → Act → World → Prop} {w W : World} {L : List Res} {K : Nat → Obj → Prop} {Kc : Act → World → Prop} {α : Type} {d : Kd α} {e : Nat} {v : Value} {xs : List α} {Rr : α → List Value → Prop} (i : Nat) (HO : Own w W L K) (hi : L[i]? = some (.row d e w.heap.size v xs)) (hw : Region.wanted o (yielded ops a.tmps) = true) (s x : Operand) (t : TypeId) (z : Value) (bytes : Nat)
    (ho : o.op = .call { callee := .builtin .append, args := #[s, x], argTypes := #[t, t] })
    (ht : P.underlying t = some (.slice e)) (hinfo : (P.info? e).map (fun i => (i.zero, i.size, i.bytes)) = some (some z, d.sz, bytes)) (hz : z.cells.size = d.sz) (hs0 : 0 < d.sz) (hb0 : 0 < bytes)
    (ys : List α) (A1 : Option Addr) (m c1 : Nat) (hs : a.eval s = v) (hx : a.eval x = .slice A1 m c1) (HR : ReadsRow Rr d.sz W A1 m ys) (hKM : ∀ x cs, Rr x cs → d.M W w.heap.size (fun _ => False) x cs) (hl : (xs.length + m) * bytes ≤ 140737488355328)
    (h : ∀ A c W', Own w W' (L.set i (.row d e w.heap.size (.slice A (xs ++ ys).length c) (xs ++ ys))) K → Kc (a.put o.dst (.slice A (xs ++ ys).length c)) W') : if Region.wanted o (yielded ops a.tmps) = true then Oper.wp P o a W Kc Q else Kc (a.put o.dst undef) W := by
  obtain ⟨h1, hk0, F, h2⟩ := HO
  have hle := h1.size
  have hR : d.R e W w.heap.size (fun k => w.heap.size ≤ k ∧ (k < W.heap.size → F k = i)) v xs := Kd.R_mono (Kd.R_bound (h2 i _ hi)) (fun k hk => ⟨hk.1.1, fun _ => hk.1.2⟩)
  refine Kd.R_append_rows_step d (w0 := w) w.heap.size hw s x t e z bytes ho ht hinfo hz hs0 hb0 v xs ys A1 m c1 _ (fun _ => False) hs hx hR HR hKM (fun _ hk => hk.elim) (fun k hk => ⟨by omega, fun hl => by omega⟩) h1 hle hl ?_
  intro v1 w1 hR1 hb1 hg1 hat
  obtain ⟨A, c, rfl⟩ := Kd.R_slice hR1
  have hSol : ∀ k, some k = v.ownBlock → Solid W k := fun k he => by obtain ⟨_, inner, ho2, _⟩ := hR; obtain ⟨cs2, hc2⟩ := own_typed ho2 k he.symm; exact solid_cells hc2
  refine h A c w1 ⟨hb1, fun k o hk => ⟨(hg1.block k (blk_lt (hk0 k o hk).1) (fun he => not_solid (hk0 k o hk).1 (hk0 k o hk).2 (hSol k he))).trans (hk0 k o hk).1, (hk0 k o hk).2⟩, fun k => if k < W.heap.size then F k else i, fun j q hj => ?_⟩
  have hil : i < L.length := (List.getElem?_eq_some_iff.mp hi).1
  rw [List.getElem?_set] at hj
  by_cases e1 : i = j
  · subst e1
    rw [if_pos rfl, if_pos hil] at hj
    injection hj with hj
    subst hj
    refine Kd.R_mono hR1 (fun k hk => ⟨hk.1, ?_⟩)
    dsimp only
    split
    · rename_i hlt; exact hk.2 hlt
    · rfl
  · rw [if_neg e1] at hj
    refine q.move (h2 j q hj) (fun k hk hl _ => ⟨hg1.block k hl (fun he => e1 ?_), hk.1, by dsimp only; rw [if_pos hl]; exact hk.2⟩)
    exact ((h2 i _ hi).1 k he.symm).2.symm.trans hk.2
/-- .. with the new row and its length as the caller writes them. -/
theorem ev_rows_step {P : Program} {ops : Array Oper} {o : Oper} {a : Act} {Q : Exit → Act → World → Prop} {w W : World} {L : List Res} {K : Nat → Obj → Prop} {Kc : Act → World → Prop} {α : Type} {d : Kd α} {e : Nat} {v : Value} {xs : List α} {Rr : α → List Value → Prop} (i : Nat) (HO : Own w W L K) (hi : L[i]? = some (.row d e w.heap.size v xs)) (hw : Region.wanted o (yielded ops a.tmps) = true) (s x : Operand) (t : TypeId) (z : Value) (bytes : Nat)
    (ho : o.op = .call { callee := .builtin .append, args := #[s, x], argTypes := #[t, t] })
    (ht : P.underlying t = some (.slice e)) (hinfo : (P.info? e).map (fun i => (i.zero, i.size, i.bytes)) = some (some z, d.sz, bytes)) (hz : z.cells.size = d.sz) (hs0 : 0 < d.sz) (hb0 : 0 < bytes)
    (ys : List α) (A1 : Option Addr) (m c1 : Nat) (zs : List α) (n : Nat) (hzs : zs = xs ++ ys) (hn : zs.length = n) (hs : a.eval s = v) (hx : a.eval x = .slice A1 m c1) (HR : ReadsRow Rr d.sz W A1 m ys) (hKM : ∀ x cs, Rr x cs → d.M W w.heap.size (fun _ => False) x cs) (hl : (xs.length + m) * bytes ≤ 140737488355328)
    (h : ∀ A c W', Own w W' (L.set i (.row d e w.heap.size (.slice A n c) zs)) K → Kc (a.put o.dst (.slice A n c)) W') : if Region.wanted o (yielded ops a.tmps) = true then Oper.wp P o a W Kc Q else Kc (a.put o.dst undef) W := by
  subst hzs
  subst hn
  exact ev_rows_step_ i HO hi hw s x t z bytes ho ht hinfo hz hs0 hb0 ys A1 m c1 hs hx HR hKM hl h
/-- A literal row, as a step of a region that draws. -/
theorem ev_lit_step {P : Program} {ops : Array Oper} {o : Oper} {a : Act} {Q : Exit → Act → World → Prop} {w W : World} {L : List Res} {K : Nat → Obj → Prop} {Kc : Act → World → Prop} {α : Type} (d : Kd α) (e : Nat) {N : Nat} {xs : List α} {inner : List Value} (HO : Own w W L K) (hw : Region.wanted o (yielded ops a.tmps) = true) (_hd : o.dst = some N)
    (hrun : (execOp a.eval o).run P W = .ok (.value (.slice (some ⟨W.heap.size, 0, none⟩) xs.length xs.length)) (W.alloc (.cells inner.toArray e)))
    (hrep : Reps (d.M W w.heap.size (fun _ => False)) d.sz xs inner) (hm : xs.length ≤ 9223372036854775807)
    (h : ∀ A c W', Own w W' (L ++ [.row d e w.heap.size (.slice A xs.length c) xs]) K → Kc (a.put o.dst (.slice A xs.length c)) W') : if Region.wanted o (yielded ops a.tmps) = true then Oper.wp P o a W Kc Q else Kc (a.put o.dst undef) W := by
  refine Kd.R_lit_step d (w0 := w) w.heap.size e hw _hd (ok := fun k => W.heap.size ≤ k) hrun hrep (fun _ hk => hk.elim) (Nat.le_refl _) HO.below HO.le hm ?_
  intro v1 w1 hR hb hg hat
  obtain ⟨A, c, rfl⟩ := Kd.R_slice hR
  have hb2 : Below W.heap.size W w1 := ⟨hg.os, hg.tape, hg.output, hg.size, fun k hk => hg.block k hk (by simp)⟩
  exact h A c w1 (HO.add hb2 hR)
/-- An empty literal is a row of one's own. -/
theorem Own.lit0 {w W : World} {L : List Res} {K : Nat → Obj → Prop} {α : Type} (HO : Own w W L K) (d : Kd α) (e : Nat) : Own w (W.alloc (.cells #[] e)) (L ++ [.row d e w.heap.size (.slice (some ⟨W.heap.size, 0, none⟩) 0 0) []]) K := by
  refine HO.add (below_alloc (Below.refl _ _) _) ⟨fun k hk => ?_, [], ?_, Reps.none _ _⟩
  · have : W.heap.size = k := by simpa [Value.ownBlock] using hk
    omega
  · have h2 := World.ownsRow_lit (base := w.heap.size) (e := e) (size := d.sz) W #[] 0 HO.le (by simp [maxLen]) (by simp)
    simpa using h2
end Go.Proofs.Ytnnkbcgoockniaa.Q

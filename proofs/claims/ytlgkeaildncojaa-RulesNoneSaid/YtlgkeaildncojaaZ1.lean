/- Texts of this claim, merged by wip/tools/pack.py: WApart, WArr, WZeros, WFoot, WKept, WShare, WN, WFootNe, WAt, WEqStruct, WRepsOne, WInv, WInvWords, WGuard, WNEv, WMore, Qx0, Hw, Sl, Cc. -/
import Derived.Test.YtlgkeaildncojaaZ0
import Derived.Laws.StructEq
import Derived.Test.YtlgkeaildncojaaProg
import Derived.Deep.MidRow
import Derived.RangeFuncNested
import Derived.Deep.Upon
import Derived.Shelf.Spec.SlicesGrow
section
-- PRINTED BY print.sh 35421559b90ae4d0a3588c463048766b98c2df88dd9212a6774a882060cdf62d: not written by this session
/-! ### 40. Elements whose inner rows lie apart: what is stored into one says nothing of the others.
   S: as R, with an owner function f (block to element's index). H: as S with a hole: of element i its cells alone are told, its blocks are oki. -/
namespace Go.Proofs.YtlgkeaildncojaaW.PrintWords
open Go.RowKit
namespace Kd
/-- An element with its index: its blocks are those that f gives to it. -/
def tag {α : Type} (f : Nat → Nat) (d : Kd α) : Kd (α × Nat) where
  sz := d.sz
  E := d.E
  K := fun w x cs => d.K w x.1 cs
  M := fun w base ok x cs => d.M w base (fun k => ok k ∧ f k = x.2) x.1 cs
  K_len := fun h => d.K_len h
  K_one := fun h => d.K_one h
  K_below := fun hb h => d.K_below hb h
  K_of_M := fun h => d.K_of_M h
  M_mono := fun hok h => d.M_mono (fun k hk => ⟨hok k hk.1, hk.2⟩) h
  M_bound := fun h => d.M_mono (fun _ hk => ⟨⟨hk.1.1, hk.2⟩, hk.1.2⟩) (d.M_bound h)
  M_move := fun hm h => d.M_move (fun k hk => hm k hk.1) h
  M_lower := fun hb h => d.M_lower hb h
/-- Nothing but its cells: no block is said of it. -/
def bare {α : Type} (d : Kd α) : Kd α where
  sz := d.sz
  E := d.E
  K := d.K
  M := fun w base _ x cs => d.M w base (fun _ => False) x cs
  K_len := fun h => d.K_len h
  K_one := fun h => d.K_one h
  K_below := fun hb h => d.K_below hb h
  K_of_M := fun h => d.K_of_M h
  M_mono := fun _ h => h
  M_bound := fun h => h
  M_move := fun _ h => d.M_move (fun _ hk => hk.elim) h
  M_lower := fun hb h => d.M_lower hb h
/-- The cells themselves. -/
def raw (sz : Nat) : Kd (List Value) where
  sz := sz
  E := []
  K := fun _ x cs => cs = x ∧ cs.length = sz ∧ ∀ u ∈ cs, u.oneCell' = true
  M := fun _ _ _ x cs => cs = x ∧ cs.length = sz ∧ ∀ u ∈ cs, u.oneCell' = true
  K_len := fun h => h.2.1
  K_one := fun h => h.2.2
  K_below := fun _ h => h
  K_of_M := fun h => h
  M_mono := fun _ h => h
  M_bound := fun h => h
  M_move := fun _ h => h
  M_lower := fun _ h => h
/-- A row of elements (type e) of the call's own, no two of which lead to one block. -/
def S {α : Type} (d : Kd α) (e : Nat) (w : World) (base : Nat) (ok : Nat → Prop) (v : Value) (xs : List α) : Prop := ∃ f, (tag f d).R e w base ok v xs.zipIdx
section
variable {α β : Type} {d : Kd α} {d' : Kd β} {e e' : Nat} {w w1 W : World} {base b : Nat} {ok ok' okv oku : Nat → Prop} {u v : Value} {xs : List α} {ys : List β}
theorem zip_at {xs : List α} {j : Nat} {p : α} (h : xs[j]? = some p) : xs.zipIdx[j]? = some (p, j) := by rw [List.getElem?_zipIdx, h, Nat.zero_add]; rfl
theorem S_R (h : S d e w base ok v xs) : d.R e w base ok v xs := by
  obtain ⟨f, h0, inner, ho, hr⟩ := h
  rw [List.length_zipIdx] at ho
  exact ⟨h0, inner, ho, by have := hr.1; rw [List.length_zipIdx] at this; exact this, fun j p hj => d.M_mono (fun _ hk => hk.1) (hr.2 j (p, j) (zip_at hj))⟩
/-- Where a row begins (any row of one's own begins at its block's head). -/
theorem R_head {ad : Addr} {n cap : Nat} (h : d.R e w base ok (.slice (some ad) n cap) xs) : ∃ g, ad = ⟨g, 0, none⟩ := by
  obtain ⟨_, inner, ho, hr⟩ := h
  rcases ho.2 with ⟨hv, _⟩ | ⟨g, cap', cur, hv, _⟩
  · cases hv
  · injection hv with ha _ _
    injection ha with ha
    exact ⟨g, ha⟩
/-- A row whose elements lead to nothing: its blocks are its own one. -/
theorem R_tight (hE : d.E = []) (h : d.R e w base ok v xs) : d.R e w base (fun k => some k = v.ownBlock) v xs := by
  obtain ⟨h0, inner, ho, hr⟩ := h
  refine ⟨fun k hk => hk.symm, inner, ho, hr.imp_ (fun p c hp => d.M_mono (fun k hk => ?_) (d.M_bound hp))⟩
  obtain ⟨_, _, _, q, hq, _⟩ := hk
  rw [hE] at hq
  cases hq
theorem S_nil (d : Kd α) (e : Nat) (w : World) (base : Nat) (ok : Nat → Prop) : S d e w base ok (.slice none 0 0) [] := ⟨fun _ => 0, R_nil _ _ _ _ _⟩
theorem S_mono (h : S d e w base ok v xs) (hok : ∀ k, ok k → ok' k) : S d e w base ok' v xs := by
  obtain ⟨f, h⟩ := h
  exact ⟨f, R_mono h hok⟩
theorem S_bound (h : S d e w base ok v xs) : S d e w base (fun k => ok k ∧ base ≤ k ∧ k < w.heap.size ∧ ∃ q, q ∈ e :: d.E ∧ ∃ cells, w.heap[k]? = some (.cells cells q (0, 0))) v xs := by
  obtain ⟨f, h⟩ := h
  exact ⟨f, R_bound h⟩
theorem S_move (h : S d e w base ok v xs) (hm : ∀ k, ok k → w1.heap[k]? = w.heap[k]?) : S d e w1 base ok v xs := by
  obtain ⟨f, h⟩ := h
  exact ⟨f, R_move h hm⟩
theorem S_step (h : S d e w base ok v xs) (hm : ∀ k, ok k → k < w.heap.size → w1.heap[k]? = w.heap[k]?) : S d e w1 base ok v xs :=
  S_mono (S_move (S_bound h) (fun k hk => hm k hk.1 hk.2.2.1)) (fun _ hk => hk.1)
theorem S_below (h : S d e w base ok v xs) (hb : Below w.heap.size w w1) : S d e w1 base ok v xs := S_step h (fun k _ hk => hb.block k hk)
theorem S_alloc (h : S d e w base ok v xs) (o : Obj) : S d e (w.alloc o) base ok v xs := S_below h (below_alloc (Below.refl _ _) o)
theorem S_drew (h : S d e w base ok v xs) : S d e w.drew base ok v xs := S_below h (below_drew (Below.refl _ _))
theorem S_drewN (h : S d e w base ok v xs) (m : Nat) : S d e (w.drewN m) base ok v xs := S_below h (pw_below_drewN (Below.refl _ _) m)
theorem S_keep (h : S d e w base ok v xs) {g : Nat} (hk : KeepBut w w1 g none) (hok : ∀ k, ok k → k ≠ g) : S d e w1 base ok v xs := S_step h (fun k ho hlt => hk.2 k hlt (hok k ho) (by simp))
theorem S_types (h : S d e w base ok v xs) {g t : Nat} {cells : Array Value} (hb : w.heap[g]? = some (.cells cells t (0, 0))) (ht : ∀ q, q ∈ e :: d.E → q ≠ t) : S d e w base (fun k => ok k ∧ k ≠ g) v xs := by
  obtain ⟨f, h⟩ := h
  exact ⟨f, R_types h hb ht⟩
theorem S_typed (h : S d e w base ok v xs) : ∀ k, v.ownBlock = some k → ∃ cells, w.heap[k]? = some (.cells cells e (0, 0)) := R_typed (S_R h)
theorem S_elder' (h : S d e W base ok u xs) (hbase : ∀ k, v.ownBlock = some k → W.heap.size ≤ k) (hb : Below W.heap.size W w1) : S d e w1 base (fun k => ok k ∧ some k ≠ v.ownBlock) u xs := by
  obtain ⟨f, h⟩ := h
  exact ⟨f, R_elder' h hbase hb⟩
/-- Behind an append to v (it left v1): what is held apart from v is held apart from v1. -/
theorem S_after {v1 : Value} (h : S d e W base (fun k => ok k ∧ some k ≠ v.ownBlock) u xs) (hg : W.grownBy w1 v.ownBlock) (hat : v1.ownBlock = v.ownBlock ∨ ∃ b, v1.ownBlock = some b ∧ W.heap.size ≤ b) : S d e w1 base (fun k => ok k ∧ some k ≠ v1.ownBlock) u xs := by
  obtain ⟨f, h⟩ := h
  exact ⟨f, R_after h hg hat⟩
/-- The owner may be told anew where nothing is said. -/
theorem R_tag {f f' : Nat → Nat} {zs : List (α × Nat)} (h : (tag f d).R e w base ok v zs) (hf : ∀ k, ok k → k < w.heap.size → f' k = f k) : (tag f' d).R e w base ok v zs := by
  obtain ⟨h0, inner, ho, hr⟩ := R_bound h
  exact ⟨fun k hk => (h0 k hk).1, inner, ho, hr.1, fun j p hj => d.M_mono (fun k hk => ⟨⟨hk.1.1.1, hk.1.2⟩, (hf k hk.1.1.1 hk.1.1.2.2.1).trans hk.2⟩) (hr.2 j p hj)⟩
end
section
variable {α β : Type} {d : Kd α} {d' : Kd β} {e e' g : Nat} {w w1 W : World} {base b : Nat} {ok ok' okv oku : Nat → Prop} {u v : Value} {xs : List α} {ys : List β}
theorem S_ne (h : S d e w base ok v xs) {t : Nat} {cells : Array Value} (hb : w.heap[g]? = some (.cells cells t (0, 0))) (ht : e ≠ t) : some g ≠ v.ownBlock := R_ne (S_R h) hb ht
theorem S_base2 (h : S d e w base ok v xs) : v.ownBlock = none ∨ ∃ k, v.ownBlock = some k ∧ base ≤ k := R_base2 (S_R h)
theorem zip_snoc (xs : List α) (p : α) : (xs ++ [p]).zipIdx = xs.zipIdx ++ [(p, xs.length)] := by rw [List.zipIdx_append]; simp
end
/-! #### append, make, literals: the new element's blocks are none of the elder ones' -/
section
open Classical in
/-- The next element's blocks are okp: none is one of v's (okv). -/
theorem S_tag {α : Type} {d : Kd α} {e base : Nat} {okv : Nat → Prop} {w : World} {v : Value} {xs : List α} (h : S d e w base okv v xs) (m : Nat) (okp : Nat → Prop) (hap : ∀ k, okp k → ¬ okv k) : ∃ f, (∀ k, okp k → f k = m) ∧ (tag f d).R e w base okv v xs.zipIdx := by
  obtain ⟨f, h⟩ := h
  exact ⟨fun k => if okp k then m else f k, fun k hk => if_pos hk, R_tag h (fun k hk _ => if_neg (fun h2 => hap k h2 hk))⟩
variable {P : Program} {ops : Array Oper} {rest : List Oper} {o : Oper} {a : Act} {Q : Exit → Act → World → Prop} {Kc : Act → World → Prop} {α : Type}
/-- append(v, x), behind 'at_builtin': x's blocks are okp, none of them v's. -/
theorem S_append (d : Kd α) {w0 W : World} (base : Nat) (hgd : o.guard = none) (s x : Operand) (t e : TypeId) (z : Value) (bytes : Nat)
    (ho : o.op = .call { callee := .builtin .append, args := #[s, x], argTypes := #[t, t] })
    (ht : P.underlying t = some (.slice e)) (hinfo : (P.info? e).map (fun i => (i.zero, i.size, i.bytes)) = some (some z, d.sz, bytes)) (hz : z.cells.size = d.sz) (hs0 : 0 < d.sz) (hb0 : 0 < bytes)
    (v : Value) (xs : List α) (p : α) (cs : List Value) (ok okp : Nat → Prop) (hs : a.eval s = v) (hx : a.eval x = .slice (some ⟨W.heap.size, 0, none⟩) 1 1) (hp : d.M W base okp p cs) (hokp : ∀ k, okp k → ok k ∧ some k ≠ v.ownBlock) (hfresh : ∀ k, W.heap.size ≤ k → ok k)
    (HO : S d e W base (fun k => ok k ∧ ¬ okp k) v xs) (HB : Below base w0 W) (hbase : base ≤ W.heap.size) (hl : (xs.length + 1) * bytes ≤ 140737488355328)
    (h : ∀ v1 w1, S d e w1 base ok v1 (xs ++ [p]) → Below base w0 w1 → W.grownBy w1 v.ownBlock → (v1.ownBlock = v.ownBlock ∨ ∃ b, v1.ownBlock = some b ∧ W.heap.size ≤ b) → wpList P ops Q rest (a.put o.dst v1) w1) :
    wpList P ops Q (o :: rest) a (W.alloc (.cells cs.toArray e)) := by
  obtain ⟨f, hf, hR⟩ := S_tag HO xs.length okp (fun _ hk h2 => h2.2 hk)
  refine R_append (tag f d) base hgd s x t e z bytes ho ht hinfo hz hs0 hb0 v xs.zipIdx (p, xs.length) cs ok okp hs hx (d.M_mono (fun k hk => ⟨hk, hf k hk⟩) hp) hokp hfresh (R_mono hR (fun _ hk => hk.1)) HB hbase (by rw [List.length_zipIdx]; exact hl) ?_
  intro v1 w1 hr
  rw [← zip_snoc] at hr
  exact h v1 w1 ⟨f, hr⟩
end
/-! #### a row with a hole: element i is lent, its blocks are oki; of it the row says its cells alone -/
/-- Element i is these cells; the others are d's. -/
def gap {α : Type} (f : Nat → Nat) (d : Kd α) (i : Nat) (c : List Value) : Kd (α × Nat) where
  sz := d.sz
  E := d.E
  K := fun w x cs => (x.2 = i → cs = c ∧ cs.length = d.sz ∧ ∀ u ∈ cs, u.oneCell' = true) ∧ (x.2 ≠ i → d.K w x.1 cs)
  M := fun w base ok x cs => (x.2 = i → cs = c ∧ cs.length = d.sz ∧ ∀ u ∈ cs, u.oneCell' = true) ∧ (x.2 ≠ i → d.M w base (fun k => ok k ∧ f k = x.2) x.1 cs)
  K_len := fun {w x cs} h => by
    by_cases hx : x.2 = i
    · exact (h.1 hx).2.1
    · exact d.K_len (h.2 hx)
  K_one := fun {w x cs} h => by
    by_cases hx : x.2 = i
    · exact (h.1 hx).2.2
    · exact d.K_one (h.2 hx)
  K_below := fun hb h => ⟨h.1, fun hx => d.K_below hb (h.2 hx)⟩
  K_of_M := fun h => ⟨h.1, fun hx => d.K_of_M (h.2 hx)⟩
  M_mono := fun hok h => ⟨h.1, fun hx => d.M_mono (fun k hk => ⟨hok k hk.1, hk.2⟩) (h.2 hx)⟩
  M_bound := fun h => ⟨h.1, fun hx => d.M_mono (fun _ hk => ⟨⟨hk.1.1, hk.2⟩, hk.1.2⟩) (d.M_bound (h.2 hx))⟩
  M_move := fun hm h => ⟨h.1, fun hx => d.M_move (fun k hk => hm k hk.1) (h.2 hx)⟩
  M_lower := fun hb h => ⟨h.1, fun hx => d.M_lower hb (h.2 hx)⟩
def H {α : Type} (d : Kd α) (e : Nat) (w : World) (base : Nat) (ok : Nat → Prop) (v : Value) (xs : List α) (i : Int) (oki : Nat → Prop) (c : List Value) : Prop :=
  (∀ k, oki k → ok k) ∧ ∃ f, (gap f d i.toNat c).R e w base (fun k => ok k ∧ ¬ oki k) v xs.zipIdx
section
variable {α β : Type} {d : Kd α} {e e' g n cap : Nat} {w w1 W : World} {base : Nat} {ok ok' oki okp : Nat → Prop} {u v : Value} {xs : List α} {i : Int} {c : List Value}
end
section
variable {P : Program} {ops : Array Oper} {rest : List Oper} {o : Oper} {a : Act} {Q : Exit → Act → World → Prop} {α : Type}
end
end Kd
end Go.Proofs.YtlgkeaildncojaaW.PrintWords
end
section
-- PRINTED BY print.sh 35421559b90ae4d0a3588c463048766b98c2df88dd9212a6774a882060cdf62d: not written by this session
/-! ### 41. Arrays '[n]T' as_ values: a kind (a field, an element of a row), an element read, an element set -/
namespace Go.Proofs.YtlgkeaildncojaaW.PrintWords
open Go.RowKit
namespace Kd
theorem reps_one {α : Type} {R : α → List Value → Prop} {size : Nat} {ps : List α} {cs : List Value} (h : Reps R size ps cs) (hs0 : 0 < size) (hR : ∀ p c, R p c → ∀ u ∈ c, u.oneCell' = true) : ∀ u ∈ cs, u.oneCell' = true := by
  intro u hu
  obtain ⟨q, hq, rfl⟩ := List.mem_iff_getElem.1 hu
  have hql : q / size < ps.length := by
    rw [Nat.div_lt_iff_lt_mul hs0, ← h.1]
    exact hq
  refine hR _ _ (h.2 (q / size) _ (List.getElem?_eq_getElem hql)) _ ?_
  rw [List.mem_iff_getElem?]
  refine ⟨q % size, ?_⟩
  rw [List.getElem?_take, if_pos (Nat.mod_lt _ hs0), List.getElem?_drop, Nat.mul_comm, Nat.div_add_mod, List.getElem?_eq_getElem hq]
/-- An array of n elements of kind d. -/
def arr {α : Type} (n : Nat) (d : Kd α) (hs : 0 < d.sz) : Kd (List α) where
  sz := n * d.sz
  E := d.E
  K := fun w xs cs => xs.length = n ∧ Reps (d.K w) d.sz xs cs
  M := fun w base ok xs cs => xs.length = n ∧ Reps (d.M w base ok) d.sz xs cs
  K_len := fun h => by rw [← h.1]; exact h.2.1
  K_one := fun h => reps_one h.2 hs (fun _ _ hk => d.K_one hk)
  K_below := fun hb h => ⟨h.1, h.2.imp_ (fun _ _ hk => d.K_below hb hk)⟩
  K_of_M := fun h => ⟨h.1, h.2.imp_ (fun _ _ hk => d.K_of_M hk)⟩
  M_mono := fun hok h => ⟨h.1, h.2.imp_ (fun _ _ hk => d.M_mono hok hk)⟩
  M_bound := fun h => ⟨h.1, h.2.imp_ (fun _ _ hk => d.M_bound hk)⟩
  M_move := fun hm h => ⟨h.1, h.2.imp_ (fun _ _ hk => d.M_move hm hk)⟩
  M_lower := fun hb h => ⟨h.1, h.2.imp_ (fun _ _ hk => d.M_lower hb hk)⟩
section
variable {α : Type} {n : Nat} {d : Kd α} {hs : 0 < d.sz} {w : World} {base : Nat} {ok : Nat → Prop} {xs : List α} {cs : List Value}
end
section
variable {α : Type} {n : Nat} {enc : α → Value} {h1 : ∀ x, (enc x).oneCell' = true} {hs : 0 < (scalar enc h1).sz} {w : World} {base : Nat} {ok : Nat → Prop} {xs : List α} {cs : List Value}
end
end Kd
end Go.Proofs.YtlgkeaildncojaaW.PrintWords
end
section
-- PRINTED BY print.sh 35421559b90ae4d0a3588c463048766b98c2df88dd9212a6774a882060cdf62d: not written by this session
/-! ### 42. append(v, make([]T, n)...): the operation comes as_ append with the number in the second place -/
namespace Go.Proofs.YtlgkeaildncojaaW.PrintWords
open Go.RowKit
section
variable {P : Program}
end
namespace Kd
section
variable {P : Program} {ops : Array Oper} {rest : List Oper} {o : Oper} {a : Act} {Q : Exit → Act → World → Prop} {Kc : Act → World → Prop} {α : Type}
end
/-! #### the same for rows whose elements lie apart -/
/-- As_ tag; an element without index leads to nothing. -/
def tagO {α : Type} (f : Nat → Nat) (d : Kd α) : Kd (α × Option Nat) where
  sz := d.sz
  E := d.E
  K := fun w x cs => d.K w x.1 cs
  M := fun w base ok x cs => d.M w base (fun k => ok k ∧ some (f k) = x.2) x.1 cs
  K_len := fun h => d.K_len h
  K_one := fun h => d.K_one h
  K_below := fun hb h => d.K_below hb h
  K_of_M := fun h => d.K_of_M h
  M_mono := fun hok h => d.M_mono (fun k hk => ⟨hok k hk.1, hk.2⟩) h
  M_bound := fun h => d.M_mono (fun _ hk => ⟨⟨hk.1.1, hk.2⟩, hk.1.2⟩) (d.M_bound h)
  M_move := fun hm h => d.M_move (fun k hk => hm k hk.1) h
  M_lower := fun hb h => d.M_lower hb h
section
variable {α : Type} {d : Kd α} {e : Nat} {w : World} {base : Nat} {ok : Nat → Prop} {v : Value} {xs : List α}
def zipO (xs : List α) (z : α) (m : Nat) : List (α × Option Nat) := xs.zipIdx.map (fun p => (p.1, some p.2)) ++ List.replicate m (z, none)
end
section
variable {P : Program} {ops : Array Oper} {rest : List Oper} {o : Oper} {a : Act} {Q : Exit → Act → World → Prop} {Kc : Act → World → Prop} {α : Type}
end
end Kd
end Go.Proofs.YtlgkeaildncojaaW.PrintWords
end
section
-- PRINTED BY print.sh 35421559b90ae4d0a3588c463048766b98c2df88dd9212a6774a882060cdf62d: not written by this session
/-! ### 43. What is read beside a state: it stays read whatever the state's calls turn ('∀ W', KeepBut w W' g none → d.C W' A n xs') -/
namespace Go.Proofs.YtlgkeaildncojaaW.PrintWords
open Go.RowKit
namespace Kd
/-- What a kind reads lies in the blocks: nothing else of the world is looked at. -/
structure Heap {α : Type} (d : Kd α) : Prop where
  K : ∀ {w w1 : World} {x : α} {cs : List Value}, (∀ k, k < w.heap.size → w1.heap[k]? = w.heap[k]?) → d.K w x cs → d.K w1 x cs
theorem cell_heap {w w1 : World} (hb : ∀ k, k < w.heap.size → w1.heap[k]? = w.heap[k]?) {a : Addr} {v : Value} (h : w.cell? a = some v) : w1.cell? a = some v := by
  have := hb a.block (World.block_lt_of_cell? w a h)
  simpa [World.cell?, this] using h
theorem Heap.C {α : Type} {d : Kd α} (hd : Heap d) {w w1 : World} {A : Option Addr} {n : Nat} {xs : List α} (hb : ∀ k, k < w.heap.size → w1.heap[k]? = w.heap[k]?) (h : d.C w A n xs) : d.C w1 A n xs :=
  ⟨h.1, h.2.1, fun hn => by
    obtain ⟨ad, e, hc⟩ := h.2.2 hn
    refine ⟨ad, e, fun j p hj => ?_⟩
    obtain ⟨c, hs, hr, hcell⟩ := hc j p hj
    exact ⟨c, hs, hd.K hb hr, fun i u hu => cell_heap hb (hcell i u hu)⟩⟩
section
variable {α : Type} {d : Kd α} {e base g n c : Nat} {ok : Nat → Prop} {w w0 W : World} {A : Option Addr} {xs : List α}
end
end Kd
end Go.Proofs.YtlgkeaildncojaaW.PrintWords
end
section
-- PRINTED BY print.sh 35421559b90ae4d0a3588c463048766b98c2df88dd9212a6774a882060cdf62d: not written by this session
/-! ### 45. What a call keeps: all but the blocks of S (the rows that it was given to write) and what is new since -/
namespace Go.Proofs.YtlgkeaildncojaaW.PrintWords
open Go.RowKit
def Kept (w W : World) (S : Nat → Prop) : Prop := w.heap.size ≤ W.heap.size ∧ ∀ i, i < w.heap.size → ¬ S i → W.heap[i]? = w.heap[i]?
section
variable {w W W2 : World} {S S2 S' : Nat → Prop}
theorem Kept.refl (w : World) (S : Nat → Prop) : Kept w w S := ⟨Nat.le_refl _, fun _ _ _ => rfl⟩
theorem Kept.of_below (h : Below w.heap.size w W) (S : Nat → Prop) : Kept w W S := ⟨h.size, fun i hi _ => h.block i hi⟩
theorem Kept.mono (h : Kept w W S) (hs : ∀ k, S k → S' k) : Kept w W S' := ⟨h.1, fun i hi hn => h.2 i hi (fun hk => hn (hs i hk))⟩
theorem Kept.then_ (h : Kept w W S) (k : Kept W W2 S2) (hs : ∀ k, S2 k → S k ∨ w.heap.size ≤ k) : Kept w W2 S :=
  ⟨Nat.le_trans h.1 k.1, fun i hi hn => (k.2 i (Nat.lt_of_lt_of_le hi h.1) (fun h2 => (hs i h2).elim hn (fun h3 => by omega))).trans (h.2 i hi hn)⟩
theorem Kept.of_grown {row : Option Nat} (hg : W.grownBy W2 row) (h : Kept w W S) (hr : ∀ k, row = some k → S k ∨ w.heap.size ≤ k) : Kept w W2 S :=
  h.then_ (S2 := fun k => row = some k) ⟨hg.size, fun i hi hn => hg.block i hi (fun he => hn he.symm)⟩ hr
theorem Kept.below (h : Kept w W S) (hb : Below W.heap.size W W2) : Kept w W2 S := h.then_ (Kept.of_below hb (fun _ => False)) (fun _ hk => hk.elim)
theorem Kept.alloc (h : Kept w W S) (o : Obj) : Kept w (W.alloc o) S := h.below (below_alloc (Below.refl _ _) o)
theorem Kept.drew (h : Kept w W S) : Kept w W.drew S := h
theorem Kept.drewN (h : Kept w W S) (m : Nat) : Kept w (W.drewN m) S := h
theorem Kept.setCell (h : Kept w W S) {p : Addr} (hp : S p.block ∨ w.heap.size ≤ p.block) (u : Value) : Kept w (W.setCell p u) S :=
  h.then_ (S2 := fun k => k = p.block) ⟨by simp [World.setCell], fun i _ hn => Below.heap_setCell W p u i hn⟩ (fun k hk => by rw [hk]; exact hp)
theorem blk_kept {g : Nat} {o : Obj} (hb : W.heap[g]? = some o) (hk : Kept W W2 S) (hne : ¬ S g) : W2.heap[g]? = some o := (hk.2 g (blk_lt hb) hne).trans hb
end
namespace Kd
section
variable {α : Type} {d : Kd α} {e base n c : Nat} {ok oki S S2 : Nat → Prop} {w w0 W W1 W2 : World} {v : Value} {A : Option Addr} {xs : List α} {i : Int} {cs : List Value}
end
end Kd
end Go.Proofs.YtlgkeaildncojaaW.PrintWords
end
section
-- PRINTED BY print.sh 35421559b90ae4d0a3588c463048766b98c2df88dd9212a6774a882060cdf62d: not written by this session
/-! ### 46. Values that share: what is only read, with the blocks it lies in (its footprint 'ok'): Foot, F (a row that is read), FK (an element's cells) -/
namespace Go.Proofs.YtlgkeaildncojaaW.PrintWords
open Go.RowKit
/-- P holds in W and in every world that has W's blocks of ok. -/
def Foot (P : World → Prop) (W : World) (ok : Nat → Prop) : Prop := ∀ W' : World, (∀ k, ok k → k < W.heap.size → W'.heap[k]? = W.heap[k]?) → P W'
theorem heap_lt {W W1 : World} {k : Nat} (h : W1.heap[k]? = W.heap[k]?) (hlt : k < W.heap.size) : k < W1.heap.size := by
  rw [Array.getElem?_eq_getElem hlt] at h
  exact (Array.getElem?_eq_some_iff.1 h).1
namespace Foot
variable {P Q : World → Prop} {W W1 : World} {ok ok' : Nat → Prop}
theorem now (h : Foot P W ok) : P W := h W (fun _ _ _ => rfl)
theorem mono (h : Foot P W ok) (hok : ∀ k, ok k → ok' k) : Foot P W ok' := fun W' hW => h W' (fun k hk hlt => hW k (hok k hk) hlt)
theorem bound (h : Foot P W ok) : Foot P W (fun k => ok k ∧ k < W.heap.size) := fun W' hW => h W' (fun k hk hlt => hW k ⟨hk, hlt⟩ hlt)
theorem step (h : Foot P W ok) (hm : ∀ k, ok k → k < W.heap.size → W1.heap[k]? = W.heap[k]?) : Foot P W1 ok := fun W' hW => h W' (fun k hk hlt => (hW k hk (heap_lt (hm k hk hlt) hlt)).trans (hm k hk hlt))
theorem imp (h : Foot P W ok) (hi : ∀ W', P W' → Q W') : Foot Q W ok := fun W' hW => hi W' (h W' hW)
/-- Moved, and still elder than what is new since W. -/
theorem old (h : Foot P W ok) (hb : Below W.heap.size W W1) : Foot P W1 (fun k => ok k ∧ k < W.heap.size) := (h.bound).step (fun k _ hlt => hb.block k hlt)
end Foot
namespace Kd
/-- A row that is only read: what it leads to lies in ok. -/
def F {α : Type} (d : Kd α) (W : World) (ok : Nat → Prop) (A : Option Addr) (n : Nat) (xs : List α) : Prop := Foot (fun W => d.C W A n xs) W ok
/-- An element's cells: what they lead to lies in ok. -/
def FK {α : Type} (d : Kd α) (W : World) (ok : Nat → Prop) (x : α) (c : List Value) : Prop := Foot (fun W => d.K W x c) W ok
section
variable {α β : Type} {d : Kd α} {e base n n' cc g N : Nat} {ok ok' okp S : Nat → Prop} {w w0 w1 W W1 : World} {A A' : Option Addr} {u v v1 : Value} {xs : List α} {xs' : List β} {d' : Kd β} {x : α} {c : List Value}
theorem F_nil (d : Kd α) (W : World) (ok : Nat → Prop) : F d W ok none ([] : List α).length [] := fun W' _ => C_nil d W'
theorem FK_of_M (h : d.M W base ok x c) : FK d W ok x c := fun _ hW => d.K_of_M (M_step h hW)
end
end Kd
end Go.Proofs.YtlgkeaildncojaaW.PrintWords
end
section
-- PRINTED BY print.sh 35421559b90ae4d0a3588c463048766b98c2df88dd9212a6774a882060cdf62d: not written by this session
/-! ### 47. N: a row of the call's own whose elements share (what they lead to is only read) -/
namespace Go.Proofs.YtlgkeaildncojaaW.PrintWords
open Go.RowKit
namespace Kd
/-- The cells one behind the other, element by element. -/
def chunks (sz : Nat) (n : Nat) (inner : List Value) : List (List Value) := (List.range n).map fun j => (inner.drop (j * sz)).take sz
theorem chunks_length (sz n : Nat) (inner : List Value) : (chunks sz n inner).length = n := by simp [chunks]
theorem chunks_at {sz n : Nat} {inner : List Value} {j : Nat} (hj : j < n) : (chunks sz n inner)[j]? = some ((inner.drop (j * sz)).take sz) := by simp [chunks, hj]
theorem chunks_get {sz n : Nat} {inner : List Value} {j : Nat} {c : List Value} (h : (chunks sz n inner)[j]? = some c) : c = (inner.drop (j * sz)).take sz := by
  have hj : j < n := by have := (List.getElem?_eq_some_iff.1 h).1; rwa [chunks_length] at this
  rw [chunks_at hj] at h
  injection h with h
  exact h.symm
theorem reps_raw {α : Type} {Rr : α → List Value → Prop} {sz : Nat} {xs : List α} {inner : List Value} (h : Reps Rr sz xs inner) (hR : ∀ x c, Rr x c → c.length = sz ∧ ∀ u ∈ c, u.oneCell' = true) : Reps (fun x cs => cs = x ∧ cs.length = sz ∧ ∀ u ∈ cs, u.oneCell' = true) sz (chunks sz xs.length inner) inner := by
  refine ⟨by rw [chunks_length]; exact h.1, fun j p hj => ?_⟩
  have hjl : j < xs.length := by have := (List.getElem?_eq_some_iff.1 hj).1; rwa [chunks_length] at this
  have hp := chunks_get hj
  exact ⟨hp.symm, hR _ _ (h.2 j _ (List.getElem?_eq_getElem hjl))⟩
section
variable {α : Type} {d : Kd α} {e base n cc g : Nat} {ok ok' okp S : Nat → Prop} {w w1 W W1 : World} {A : Option Addr} {u v v1 : Value} {xs : List α} {x : α} {c : List Value}
/-- A row of elements (type e) of the call's own; what the elements lead to is only read, and is not this row. -/
def N {α : Type} (d : Kd α) (e : Nat) (w : World) (base : Nat) (ok : Nat → Prop) (v : Value) (xs : List α) : Prop :=
  (∀ k, v.ownBlock = some k → ok k) ∧ ∃ rows : List (List Value), rows.length = xs.length ∧ (raw d.sz).R e w base (fun k => some k = v.ownBlock) v rows ∧ ∀ (j : Nat) (x : α) (c : List Value), xs[j]? = some x → rows[j]? = some c → FK d w (fun k => ok k ∧ some k ≠ v.ownBlock) x c
theorem R_N (h : d.R e w base ok v xs) : N d e w base ok v xs := by
  obtain ⟨h0, inner, ho, hr⟩ := h
  refine ⟨h0, chunks d.sz xs.length inner, chunks_length _ _ _, ⟨fun k hk => hk.symm, inner, by rw [chunks_length]; exact ho, reps_raw hr (fun x c hp => ⟨d.K_len (d.K_of_M hp), d.K_one (d.K_of_M hp)⟩)⟩, fun j x c hx hc => ?_⟩
  rw [chunks_get hc]
  exact FK_of_M (hr.2 j x hx)
theorem N_nil (d : Kd α) (e : Nat) (w : World) (base : Nat) (ok : Nat → Prop) : N d e w base ok (.slice none 0 0) [] := R_N (R_nil _ _ _ _ _)
end
end Kd
end Go.Proofs.YtlgkeaildncojaaW.PrintWords
end
section
-- PRINTED BY print.sh 35421559b90ae4d0a3588c463048766b98c2df88dd9212a6774a882060cdf62d: not written by this session
/-! ### 52. A row that stays read whatever happens to a block (a set of blocks) doesn't lie there -/
namespace Go.Proofs.YtlgkeaildncojaaW.PrintWords
open Go.RowKit
namespace Kd
section
variable {α : Type} {d : Kd α} {W : World} {g n : Nat} {S ok : Nat → Prop} {A : Option Addr} {ad : Addr} {xs : List α}
end
end Kd
end Go.Proofs.YtlgkeaildncojaaW.PrintWords
end
section
-- PRINTED BY print.sh 35421559b90ae4d0a3588c463048766b98c2df88dd9212a6774a882060cdf62d: not written by this session
/-! ### 54. Behind orders that were drawn quietly: the same facts at the world's new name; a flat row's foot -/
namespace Go.Proofs.YtlgkeaildncojaaW.PrintWords
open Go.RowKit
section
variable {w w' u : World} {m B g : Nat} {o : Obj} {row : Option Nat} {S : Nat → Prop} {a : Addr} {v : Value}
end
namespace Kd
section
variable {α : Type} {d : Kd α} {e base n m : Nat} {ok : Nat → Prop} {w w' : World} {v : Value} {A : Option Addr} {xs : List α}
end
end Kd
end Go.Proofs.YtlgkeaildncojaaW.PrintWords
end
section
-- PRINTED BY print.sh 35421559b90ae4d0a3588c463048766b98c2df88dd9212a6774a882060cdf62d: not written by this session
/-! ### 53. '==' of structs as_ one Bool -/
namespace Go.Proofs.YtlgkeaildncojaaW.PrintWords
open Go.RowKit
section
variable {P : Program} {d : Nat} {xs ys : Array Value} {f : Field} {fs : List Field} {a b : Value} {r s : Bool} {w : World}
/-- The last field that counts. -/
theorem eqf_last (hn : (f.name == "_") = false) (ha : (part f.type xs f.offset).run P w = .ok a w) (hb : (part f.type ys f.offset).run P w = .ok b w) (he : (Op.equalIn d f.type a b).run P w = .ok r w) : (Op.eqFields d xs ys [f]).run P w = .ok r w := by
  have hn' : f.name ≠ "_" := by simpa using hn
  simp only [Op.eqFields, if_pos hn', Sem.run_bind, ha, hb, he, Result.andThen_ok]
  cases r <;> simp
theorem eqf_cons (hn : (f.name == "_") = false) (ha : (part f.type xs f.offset).run P w = .ok a w) (hb : (part f.type ys f.offset).run P w = .ok b w) (he : (Op.equalIn d f.type a b).run P w = .ok r w) (hr : (Op.eqFields d xs ys fs).run P w = .ok s w) : (Op.eqFields d xs ys (f :: fs)).run P w = .ok (r && s) w := by
  have hn' : f.name ≠ "_" := by simpa using hn
  rw [Op.eqFields]
  simp only [if_pos hn', Sem.run_bind, ha, hb, he, Result.andThen_ok]
  cases r
  · simp
  · simpa using hr
theorem eqA_of {t : TypeId} {fs : Array Field} (hu : P.underlying t = some (.struct fs)) (hp : P.stoodInHeld t = false) (h : (Op.eqFields d xs ys fs.toList).run P w = .ok r w) : (Op.equalIn (d + 1) t (.agg xs) (.agg ys)).run P w = .ok r w := by
  have hf : P.fieldsOf t = fs := by simp [Program.fieldsOf, hu]
  rw [run_equalIn_struct (P := P) w d t xs ys (by rw [hf]; exact hu) hp, hf]
  exact h
end
end Go.Proofs.YtlgkeaildncojaaW.PrintWords
end
section
-- PRINTED BY print.sh 35421559b90ae4d0a3588c463048766b98c2df88dd9212a6774a882060cdf62d: not written by this session
/-! ### 55. Reps told from the front, no append: for rows of one-cell elements and of wider ones -/
namespace Go.Proofs.YtlgkeaildncojaaW.PrintWords
/-- One cell an element. -/
theorem Reps.one {α : Type} {R : α → List Value → Prop} {ps : List α} {cs : List Value} {p : α} {v : Value} (hp : R p [v]) (h : Reps R 1 ps cs) : Reps R 1 (p :: ps) (v :: cs) := by
  refine ⟨by simp [h.1], fun j q hq => ?_⟩
  cases j with
  | zero =>
    simp only [List.getElem?_cons_zero, Option.some.injEq] at hq
    subst hq
    simpa using hp
  | succ j =>
    simp only [List.getElem?_cons_succ] at hq
    have h1 := h.2 j q hq
    simpa [Nat.mul_one] using h1
/-- More cells an element: told apart by the cells' list. -/
theorem Reps.front {α : Type} {R : α → List Value → Prop} {size : Nat} {ps : List α} {cs c all : List Value} {p : α} (hp : R p c) (hc : c.length = size) (h : Reps R size ps cs) (ha : c ++ cs = all) : Reps R size (p :: ps) all := by
  subst ha
  refine ⟨by rw [List.length_append, hc, h.1, List.length_cons, Nat.succ_mul, Nat.add_comm], fun j q hq => ?_⟩
  cases j with
  | zero =>
    simp only [List.getElem?_cons_zero, Option.some.injEq] at hq
    subst hq
    rw [Nat.zero_mul, List.drop_zero, List.take_append_of_le_length (by omega), List.take_of_length_le (by omega)]
    exact hp
  | succ j =>
    simp only [List.getElem?_cons_succ] at hq
    have h1 := h.2 j q hq
    rw [Nat.succ_mul, List.drop_append, List.drop_of_length_le (by rw [hc]; exact Nat.le_add_left _ _), List.nil_append, hc, Nat.add_sub_cancel]
    exact h1
theorem Reps.c2 {α : Type} {R : α → List Value → Prop} {ps : List α} {cs : List Value} {p : α} {va vb : Value} (hp : R p [va, vb]) (h : Reps R 2 ps cs) : Reps R 2 (p :: ps) (va :: vb :: cs) := Reps.front hp rfl h rfl
theorem Reps.c3 {α : Type} {R : α → List Value → Prop} {ps : List α} {cs : List Value} {p : α} {va vb vc : Value} (hp : R p [va, vb, vc]) (h : Reps R 3 ps cs) : Reps R 3 (p :: ps) (va :: vb :: vc :: cs) := Reps.front hp rfl h rfl
theorem Reps.c4 {α : Type} {R : α → List Value → Prop} {ps : List α} {cs : List Value} {p : α} {va vb vc vd : Value} (hp : R p [va, vb, vc, vd]) (h : Reps R 4 ps cs) : Reps R 4 (p :: ps) (va :: vb :: vc :: vd :: cs) := Reps.front hp rfl h rfl
theorem Reps.c5 {α : Type} {R : α → List Value → Prop} {ps : List α} {cs : List Value} {p : α} {va vb vc vd ve : Value} (hp : R p [va, vb, vc, vd, ve]) (h : Reps R 5 ps cs) : Reps R 5 (p :: ps) (va :: vb :: vc :: vd :: ve :: cs) := Reps.front hp rfl h rfl
theorem Reps.c6 {α : Type} {R : α → List Value → Prop} {ps : List α} {cs : List Value} {p : α} {va vb vc vd ve vf : Value} (hp : R p [va, vb, vc, vd, ve, vf]) (h : Reps R 6 ps cs) : Reps R 6 (p :: ps) (va :: vb :: vc :: vd :: ve :: vf :: cs) := Reps.front hp rfl h rfl
theorem Reps.c7 {α : Type} {R : α → List Value → Prop} {ps : List α} {cs : List Value} {p : α} {va vb vc vd ve vf vg : Value} (hp : R p [va, vb, vc, vd, ve, vf, vg]) (h : Reps R 7 ps cs) : Reps R 7 (p :: ps) (va :: vb :: vc :: vd :: ve :: vf :: vg :: cs) := Reps.front hp rfl h rfl
theorem Reps.c8 {α : Type} {R : α → List Value → Prop} {ps : List α} {cs : List Value} {p : α} {va vb vc vd ve vf vg vh : Value} (hp : R p [va, vb, vc, vd, ve, vf, vg, vh]) (h : Reps R 8 ps cs) : Reps R 8 (p :: ps) (va :: vb :: vc :: vd :: ve :: vf :: vg :: vh :: cs) := Reps.front hp rfl h rfl
theorem Reps.c9 {α : Type} {R : α → List Value → Prop} {ps : List α} {cs : List Value} {p : α} {va vb vc vd ve vf vg vh vi : Value} (hp : R p [va, vb, vc, vd, ve, vf, vg, vh, vi]) (h : Reps R 9 ps cs) : Reps R 9 (p :: ps) (va :: vb :: vc :: vd :: ve :: vf :: vg :: vh :: vi :: cs) := Reps.front hp rfl h rfl
theorem Reps.c10 {α : Type} {R : α → List Value → Prop} {ps : List α} {cs : List Value} {p : α} {va vb vc vd ve vf vg vh vi vj : Value} (hp : R p [va, vb, vc, vd, ve, vf, vg, vh, vi, vj]) (h : Reps R 10 ps cs) : Reps R 10 (p :: ps) (va :: vb :: vc :: vd :: ve :: vf :: vg :: vh :: vi :: vj :: cs) := Reps.front hp rfl h rfl
end Go.Proofs.YtlgkeaildncojaaW.PrintWords
end
section
-- PRINTED BY print.sh 35421559b90ae4d0a3588c463048766b98c2df88dd9212a6774a882060cdf62d: not written by this session
/-! ### 57. A region of open order by ONE relation over what is listed so far: each operation is shown once, whatever came up before it -/
namespace Go.Proofs.YtlgkeaildncojaaW.PrintLast
/-- Number i is listed too. -/
def up (b : Nat → Bool) (i : Nat) : Nat → Bool := fun j => if j = i then true else b j
/-- What is listed: O's operations by b, all else already. -/
def lof (n : Nat) (O : List Nat) (b : Nat → Bool) : List Bool := (List.range n).map fun j => if O.contains j then b j else true
/-- The destinations of what is listed are filled. -/
def putSel (a : Act) (b : Nat → Bool) : List (Nat × Tmp × Value) → Act
  | [] => a
  | e :: r => putSel (if b e.1 = true then a.put (some e.2.1) e.2.2 else a) b r
section
variable {P : Program} {ops : Array Oper} {Q : Exit → Act → World → Prop} {md : Region.Mode} {T : Bool × List (List Nat × List Nat)} {B : List Nat} {O : List Nat} {b : Nat → Bool} {i j n : Nat}
/-- The step of operation i: out of the relation, it not being listed, all it waits for being so, and nothing that waits for it. -/
def StepAt (P : Program) (ops : Array Oper) (Q : Exit → Act → World → Prop) (B : List Nat) (O : List Nat) (I : (Nat → Bool) → Act → World → Prop) (i : Nat) : Prop :=
  ∀ b a w, I b a w → b i = false → (∀ j, (O.contains j && (B.getD i 0).testBit j) = true → b j = true) → (∀ d, (O.contains d && (B.getD d 0).testBit i) = true → b d = false) →
    ∃ oi, ops[i]? = some oi ∧ ∀ K : Act → World → Prop, Shut (∀ a' w', I (up b i) a' w' → K a' w') → if Region.wanted oi (yielded ops a.tmps) = true then Oper.wp P oi a w K Q else K (a.put oi.dst undef) w
/-- Every edge goes to an earlier operation; what is listed already waits for nothing of O; O's numbers are the region's, each once. -/
def baseOk (T : List (List Nat × List Nat)) (O : List Nat) : Bool :=
  (List.range T.length).all (fun d => match T[d]? with
    | some r => (O.contains d || r.1.all fun n => !O.contains n) && r.1.all fun n => decide (n < d)
    | none => false) && O.all (fun i => decide (i < T.length)) && decide O.Nodup
def Closed (T : List (List Nat × List Nat)) (O : List Nat) (b : Nat → Bool) : Prop := ∀ d r, T[d]? = some r → O.contains d = true → b d = true → ∀ n ∈ r.1, O.contains n = true → b n = true
/-! The frame: what is listed has its destination filled. -/
end
end Go.Proofs.YtlgkeaildncojaaW.PrintLast
end
section
-- PRINTED BY print.sh 35421559b90ae4d0a3588c463048766b98c2df88dd9212a6774a882060cdf62d: not written by this session
namespace Go.Proofs.YtlgkeaildncojaaW.PrintWords
open Go.RowKit
end Go.Proofs.YtlgkeaildncojaaW.PrintWords
namespace Go.Proofs.YtlgkeaildncojaaW.PrintLast
section
variable {ops : Array Oper} {a : Act} {o og : Oper} {g : Nat} {t : Tmp} {u : Bool}
end
end Go.Proofs.YtlgkeaildncojaaW.PrintLast
end
section
-- PRINTED BY print.sh 35421559b90ae4d0a3588c463048766b98c2df88dd9212a6774a882060cdf62d: not written by this session
/-! ### 58. A guarded operation whose guard is known to want it: the same goal without the guard -/
namespace Go.Proofs.YtlgkeaildncojaaW.PrintWords
open Go.RowKit
section
variable {P : Program} {ops : Array Oper} {rest : List Oper} {o : Oper} {a : Act} {Q : Exit → Act → World → Prop} {W : World}
/-- The gate takes the guard off (hw: 'by rfl', 'by kernel_rfl': the guard's slot holds what is wanted). -/
theorem gate_guard (hw : Region.wanted o (yielded ops a.tmps) = true) (h : wpList P ops Q ({ o with guard := none } :: rest) a W) : wpList P ops Q (o :: rest) a W := by
  have h1 : Region.wanted { o with guard := none } (yielded ops a.tmps) = true := rfl
  unfold wpList at h ⊢
  rw [if_pos h1] at h
  rw [if_pos hw]
  exact h
end
end Go.Proofs.YtlgkeaildncojaaW.PrintWords
end
section
-- PRINTED BY print.sh 35421559b90ae4d0a3588c463048766b98c2df88dd9212a6774a882060cdf62d: not written by this session
/-! ### 48. N's events: append, a whole row appended, zeros appended, literals, make, stores, cuts, an element taken out -/
namespace Go.Proofs.YtlgkeaildncojaaW.PrintWords
open Go.RowKit
namespace Kd
section
variable {α : Type} {d : Kd α} {e base n cap g : Nat} {ok ok' okp : Nat → Prop} {w w1 W : World} {v v1 : Value} {xs ys : List α}
end
section
variable {P : Program} {ops : Array Oper} {rest : List Oper} {o : Oper} {a : Act} {Q : Exit → Act → World → Prop} {Kc : Act → World → Prop} {α : Type}
end
end Kd
end Go.Proofs.YtlgkeaildncojaaW.PrintWords
end
section
-- PRINTED BY print.sh 35421559b90ae4d0a3588c463048766b98c2df88dd9212a6774a882060cdf62d: not written by this session
-- PRINTED WORDS (module Derived/Print/More.lean): go-gate-2's additions: an AI agent of Go's test side, Tue Nov 17 2026; no person has read it. Lean checks it.
namespace Go.Proofs.YtlgkeaildncojaaW.PrintMore
open Go.RowKit Go.Proofs.YtlgkeaildncojaaW.PrintWords
namespace Kd
open Go.Proofs.YtlgkeaildncojaaW.PrintWords.Kd
end Kd

namespace Kd
open Go.Proofs.YtlgkeaildncojaaW.PrintWords.Kd
section
variable {α : Type} {d : Kd α} {e base g N : Nat} {ok : Nat → Prop} {W w1 : World} {u v : Value} {xs : List α}
end
end Kd
/-- 'max' and 'min' of two whole numbers. -/
theorem max2_int (k k' : IntKind) (x y : Int) : Builtin.max2 (.int k x) (.int k' y) = pure (.int k (if x < y then y else x)) := by simp only [Builtin.max2, gt_iff_lt]
theorem min2_int (k k' : IntKind) (x y : Int) : Builtin.min2 (.int k x) (.int k' y) = pure (.int k (if y < x then y else x)) := by simp only [Builtin.min2]
theorem max_two (ats : Array TypeId) (ty : TypeId) (a b : Value) : Builtin.max_ ats ty #[a, b] = (Builtin.max2 a b >>= fun s => pure s) := by simp only [Builtin.max_, List.foldlM_cons, List.foldlM_nil]
theorem min_two (ats : Array TypeId) (ty : TypeId) (a b : Value) : Builtin.min_ ats ty #[a, b] = (Builtin.min2 a b >>= fun s => pure s) := by simp only [Builtin.min_, List.foldlM_cons, List.foldlM_nil]
theorem max_three (ats : Array TypeId) (ty : TypeId) (a b c : Value) : Builtin.max_ ats ty #[a, b, c] = (Builtin.max2 a b >>= fun s => Builtin.max2 s c >>= fun s => pure s) := by simp only [Builtin.max_, List.foldlM_cons, List.foldlM_nil]
theorem min_three (ats : Array TypeId) (ty : TypeId) (a b c : Value) : Builtin.min_ ats ty #[a, b, c] = (Builtin.min2 a b >>= fun s => Builtin.min2 s c >>= fun s => pure s) := by simp only [Builtin.min_, List.foldlM_cons, List.foldlM_nil]
theorem max_four (ats : Array TypeId) (ty : TypeId) (a b c d : Value) : Builtin.max_ ats ty #[a, b, c, d] = (Builtin.max2 a b >>= fun s => Builtin.max2 s c >>= fun s => Builtin.max2 s d >>= fun s => pure s) := by simp only [Builtin.max_, List.foldlM_cons, List.foldlM_nil]
theorem min_four (ats : Array TypeId) (ty : TypeId) (a b c d : Value) : Builtin.min_ ats ty #[a, b, c, d] = (Builtin.min2 a b >>= fun s => Builtin.min2 s c >>= fun s => Builtin.min2 s d >>= fun s => pure s) := by simp only [Builtin.min_, List.foldlM_cons, List.foldlM_nil]
end Go.Proofs.YtlgkeaildncojaaW.PrintMore
namespace Go.Proofs.YtlgkeaildncojaaW.PrintWords
open Go.RowKit
section
variable {P : Program} {ops : Array Oper} {rest : List Oper} {o : Oper} {a : Act} {Q : Exit → Act → World → Prop} {W : World}
/-- The operation is a call of this function (a cheap look ahead of a dear step). -/
theorem gate_callee {f : FuncId} {as : Array Operand} {ts : Array TypeId} (_ho : o.op = .call { callee := .value (.func f), args := as, argTypes := ts }) (h : wpList P ops Q (o :: rest) a W) : wpList P ops Q (o :: rest) a W := h
/-- The operation is a builtin over these places. -/
theorem gate_builtin {b : Builtin} {xs : Array Operand} {ts : Array TypeId} (_ho : o.op = .call { callee := .builtin b, args := xs, argTypes := ts }) (h : wpList P ops Q (o :: rest) a W) : wpList P ops Q (o :: rest) a W := h
end
/-- The greater of two whole numbers, as Go's max tells it. -/
def mx (a b : Int) : Int := if a < b then b else a
/-- The smaller of two whole numbers, as Go's min tells it. -/
def mn (a b : Int) : Int := if b < a then b else a
/-- A shift to the left, as Go tells it: a count beyond the width leaves nothing. -/
def shl (k : IntKind) (x y : Int) : Int := k.wrap (x * 2 ^ min y.toNat k.bits)
/-- A shift to the right: a count beyond the width leaves the sign. -/
def shr (k : IntKind) (x y : Int) : Int := x / 2 ^ min y.toNat k.bits
namespace Kd
section
variable {α : Type} {d : Kd α} {e base : Nat} {ok : Nat → Prop} {W w1 : World} {v : Value} {xs : List α}
end
section
variable {α : Type} {d : Kd α} {e base g n cap : Nat} {ok oki okp : Nat → Prop} {W : World} {xs : List α} {i : Int} {c : List Value}
end
section
variable {α : Type} {d : Kd α} {e base b b' g N : Nat} {ok ok1 : Nat → Prop} {W W2 w1 : World} {u v : Value} {xs ys : List α} {S : Nat → Prop}
end
end Kd
end Go.Proofs.YtlgkeaildncojaaW.PrintWords
namespace Go.Proofs.YtlgkeaildncojaaW.PrintWords
open Go.RowKit
namespace Kd
/-- A row that is only read, told by its value: its form, its length, what it leads to (in ok). e and base say nothing; they make it as the others are. -/
def V {α : Type} (d : Kd α) (_e : Nat) (W : World) (_base : Nat) (ok : Nat → Prop) (v : Value) (xs : List α) : Prop := ∃ A c, v = .slice A xs.length c ∧ xs.length ≤ c ∧ F d W ok A xs.length xs
section
variable {α β : Type} {d : Kd α} {e base base' n m c g N' lo hi : Nat} {ok ok' S : Nat → Prop} {w W w1 : World} {A : Option Addr} {ad : Addr} {u v v1 : Value} {xs : List α}
theorem V_nil (d : Kd α) (e : Nat) (W : World) (base : Nat) (ok : Nat → Prop) : V d e W base ok (.slice none 0 0) [] := ⟨none, 0, rfl, Nat.le_refl _, F_nil d W ok⟩
theorem R_newM {M : Nat → Prop} (h : d.R e w1 W.heap.size ok v xs) (hle : w.heap.size ≤ W.heap.size) (hM : ∀ k, w.heap.size ≤ k → M k) : d.R e w1 W.heap.size (fun k => M k ∧ ok k) v xs := R_mono (R_bound h) (fun k hk => ⟨hM k (Nat.le_trans hle hk.2.1), hk.1⟩)
end
end Kd
end Go.Proofs.YtlgkeaildncojaaW.PrintWords
end
section
-- Written by wip/tools/myprint.py, a program of this session that drives the kit's print.py; not a text of print.sh.
namespace Go.Proofs.Ytlgkeaildncojaa.Q
open Go.RowKit Go.Proofs.YtlgkeaildncojaaW.PrintWords Go.Proofs.YtlgkeaildncojaaW.PrintLast Go.Proofs.YtlgkeaildncojaaW.PrintMore
attribute [local go_sem] max2_int min2_int max_two min_two max_three min_three max_four min_four   -- for this text's walks alone
set_option linter.unusedVariables false
set_option linter.unusedSimpArgs false



def errW : Option Int → Value
  | none => .nilIface
  | some c => .iface 0 (.int .i64 c)
theorem errW_none : errW none = .nilIface := rfl
theorem errW_some (c : Int) : errW (some c) = .iface 0 (.int .i64 c) := rfl

theorem info3 : (Try.prog.info? 3).map (fun i => (i.zero, i.size, i.bytes)) = some (some (.int .i64 0), 1, 8) := by kernel_rfl
theorem info4 : (Try.prog.info? 4).map (fun i => (i.zero, i.size, i.bytes)) = some (some (.bool false), 1, 1) := by kernel_rfl
theorem info24 : (Try.prog.info? 24).map (fun i => (i.zero, i.size, i.bytes)) = some (some (.agg #[(.slice none 0 0)]), 1, 24) := by kernel_rfl
theorem info26 : (Try.prog.info? 26).map (fun i => (i.zero, i.size, i.bytes)) = some (some (.slice none 0 0), 1, 24) := by kernel_rfl
theorem info49 : (Try.prog.info? 49).map (fun i => (i.zero, i.size, i.bytes)) = some (some (.agg #[(.slice none 0 0), (.slice none 0 0), (.slice none 0 0), (.slice none 0 0), (.slice none 0 0)]), 5, 120) := by kernel_rfl
theorem info55 : (Try.prog.info? 55).map (fun i => (i.zero, i.size, i.bytes)) = some (some (.agg #[(.int .i64 0), (.int .i64 0)]), 2, 16) := by kernel_rfl
theorem info60 : (Try.prog.info? 60).map (fun i => (i.zero, i.size, i.bytes)) = some (some (.agg #[(.int .i64 0), (.int .i64 0)]), 2, 16) := by kernel_rfl
-- the values' own types
def rd_L1 (xs : List (List Int)) (i : Int) : (List Int) := xs.getD i.toNat ([] : List Int)
theorem at_L1 {w : World} {A : Option Addr} {n : Nat} {xs : List (List Int)} (h : Kd.C (Kd.slice 3 (Kd.int .i64)) w A n xs) (i : Int) (h0 : 0 ≤ i) (h1 : i < n) : ∃ ad A0 c0, A = some ad ∧ w.cell? (ad.add i.toNat) = some (.slice A0 (rd_L1 xs i).length c0) ∧ (rd_L1 xs i).length ≤ c0 ∧ (Kd.int .i64).C w A0 (rd_L1 xs i).length (rd_L1 xs i) := by
  obtain ⟨ad, c, e, _, hK, hc0⟩ := Kd.C_get h ([] : List Int) i h0 h1
  have hc : ∀ j u, c[j]? = some u → w.cell? (ad.add (i.toNat * 1 + j)) = some u := hc0
  obtain ⟨A0, c0, rfl, l0, g0⟩ := hK
  exact ⟨ad, A0, c0, e, by have hq := hc 0 _ rfl; rwa [Nat.mul_one, Nat.add_zero] at hq, l0, g0⟩

/-! #### struct type 60 -/
structure S60 where
  f0 : Int
  f1 : Int
def z60 : S60 := ⟨(0 : Int), (0 : Int)⟩
def k60 : Kd S60 := Kd.iso (Kd.pair (Kd.int .i64) (Kd.int .i64)) (fun x : S60 => (x.f0, x.f1))
theorem k60_open {w : World} {x : S60} {cs : List Value} (h : k60.K w x cs) : cs = [.int .i64 x.f0, .int .i64 x.f1] := by
  obtain ⟨_, _, rfl, rfl, rfl⟩ := h
  exact rfl
theorem k60_mk (w : World) (x : S60)  : k60.K w x [.int .i64 x.f0, .int .i64 x.f1] := ⟨[.int .i64 x.f0], [.int .i64 x.f1], rfl, rfl, rfl⟩
theorem k60_mkM (w : World) (base : Nat) (ok : Nat → Prop) (x : S60)  : k60.M w base ok x [.int .i64 x.f0, .int .i64 x.f1] := ⟨[.int .i64 x.f0], [.int .i64 x.f1], rfl, rfl, rfl⟩
def rd_T60 (xs : List S60) (i : Int) : S60 := xs.getD i.toNat z60
theorem at_T60 {w : World} {A : Option Addr} {n : Nat} {xs : List S60} (h : Kd.C k60 w A n xs) (i : Int) (h0 : 0 ≤ i) (h1 : i < n) : ∃ ad , A = some ad ∧ w.cell? (ad.add (i.toNat * 2)) = some (.int .i64 (rd_T60 xs i).f0) ∧ w.cell? ⟨(ad.add (i.toNat * 2)).block, (ad.add (i.toNat * 2)).off + 1, none⟩ = some (.int .i64 (rd_T60 xs i).f1) := by
  obtain ⟨ad, c, e, _, hK, hc0⟩ := Kd.C_get h z60 i h0 h1
  have hc : ∀ j u, c[j]? = some u → w.cell? (ad.add (i.toNat * 2 + j)) = some u := hc0
  obtain rfl := k60_open hK
  exact ⟨ad, e, hc 0 _ rfl, by rw [← add_field _ _ 1 (by omega)]; exact hc 1 _ rfl⟩

def rd_L3 (xs : List (List (List Int))) (i : Int) : (List (List Int)) := xs.getD i.toNat ([] : List (List Int))
def rd_L4 (xs : List (List S60)) (i : Int) : (List S60) := xs.getD i.toNat ([] : List S60)
/-! #### struct type 49 -/
structure S49 where
  f0 : (List (List Int))
  f1 : (List (List Int))
  f2 : (List (List Int))
  f3 : (List Int)
  f4 : (List S60)
def z49 : S49 := ⟨([] : List (List Int)), ([] : List (List Int)), ([] : List (List Int)), ([] : List Int), ([] : List S60)⟩
def k49 : Kd S49 := Kd.iso (Kd.pair (Kd.slice 26 (Kd.slice 3 (Kd.int .i64))) (Kd.pair (Kd.slice 26 (Kd.slice 3 (Kd.int .i64))) (Kd.pair (Kd.slice 26 (Kd.slice 3 (Kd.int .i64))) (Kd.pair (Kd.slice 3 (Kd.int .i64)) (Kd.slice 60 k60))))) (fun x : S49 => (x.f0, x.f1, x.f2, x.f3, x.f4))
theorem k49_open {w : World} {x : S49} {cs : List Value} (h : k49.K w x cs) : ∃ A0 c0 A1 c1 A2 c2 A3 c3 A4 c4, cs = [.slice A0 x.f0.length c0, .slice A1 x.f1.length c1, .slice A2 x.f2.length c2, .slice A3 x.f3.length c3, .slice A4 x.f4.length c4] ∧ x.f0.length ≤ c0 ∧ (Kd.slice 3 (Kd.int .i64)).C w A0 x.f0.length x.f0 ∧ x.f1.length ≤ c1 ∧ (Kd.slice 3 (Kd.int .i64)).C w A1 x.f1.length x.f1 ∧ x.f2.length ≤ c2 ∧ (Kd.slice 3 (Kd.int .i64)).C w A2 x.f2.length x.f2 ∧ x.f3.length ≤ c3 ∧ (Kd.int .i64).C w A3 x.f3.length x.f3 ∧ x.f4.length ≤ c4 ∧ k60.C w A4 x.f4.length x.f4 := by
  obtain ⟨_, _, rfl, ⟨A0, c0, rfl, l0, g0⟩, ⟨_, _, rfl, ⟨A1, c1, rfl, l1, g1⟩, ⟨_, _, rfl, ⟨A2, c2, rfl, l2, g2⟩, ⟨_, _, rfl, ⟨A3, c3, rfl, l3, g3⟩, ⟨A4, c4, rfl, l4, g4⟩⟩⟩⟩⟩ := h
  exact ⟨A0, c0, A1, c1, A2, c2, A3, c3, A4, c4, rfl, l0, g0, l1, g1, l2, g2, l3, g3, l4, g4⟩
theorem k49_mk (w : World) (x : S49) {A0 : Option Addr} {c0 : Nat} (l0 : x.f0.length ≤ c0) (g0 : (Kd.slice 3 (Kd.int .i64)).C w A0 x.f0.length x.f0) {A1 : Option Addr} {c1 : Nat} (l1 : x.f1.length ≤ c1) (g1 : (Kd.slice 3 (Kd.int .i64)).C w A1 x.f1.length x.f1) {A2 : Option Addr} {c2 : Nat} (l2 : x.f2.length ≤ c2) (g2 : (Kd.slice 3 (Kd.int .i64)).C w A2 x.f2.length x.f2) {A3 : Option Addr} {c3 : Nat} (l3 : x.f3.length ≤ c3) (g3 : (Kd.int .i64).C w A3 x.f3.length x.f3) {A4 : Option Addr} {c4 : Nat} (l4 : x.f4.length ≤ c4) (g4 : k60.C w A4 x.f4.length x.f4) : k49.K w x [.slice A0 x.f0.length c0, .slice A1 x.f1.length c1, .slice A2 x.f2.length c2, .slice A3 x.f3.length c3, .slice A4 x.f4.length c4] := ⟨[.slice A0 x.f0.length c0], [.slice A1 x.f1.length c1, .slice A2 x.f2.length c2, .slice A3 x.f3.length c3, .slice A4 x.f4.length c4], rfl, ⟨A0, c0, rfl, l0, g0⟩, ⟨[.slice A1 x.f1.length c1], [.slice A2 x.f2.length c2, .slice A3 x.f3.length c3, .slice A4 x.f4.length c4], rfl, ⟨A1, c1, rfl, l1, g1⟩, ⟨[.slice A2 x.f2.length c2], [.slice A3 x.f3.length c3, .slice A4 x.f4.length c4], rfl, ⟨A2, c2, rfl, l2, g2⟩, ⟨[.slice A3 x.f3.length c3], [.slice A4 x.f4.length c4], rfl, ⟨A3, c3, rfl, l3, g3⟩, ⟨A4, c4, rfl, l4, g4⟩⟩⟩⟩⟩
theorem k49_mkM (w : World) (base : Nat) (ok : Nat → Prop) (x : S49) {v0 : Value} (g0 : (Kd.slice 3 (Kd.int .i64)).R 26 w base ok v0 x.f0) {v1 : Value} (g1 : (Kd.slice 3 (Kd.int .i64)).R 26 w base ok v1 x.f1) {v2 : Value} (g2 : (Kd.slice 3 (Kd.int .i64)).R 26 w base ok v2 x.f2) {v3 : Value} (g3 : (Kd.int .i64).R 3 w base ok v3 x.f3) {v4 : Value} (g4 : k60.R 60 w base ok v4 x.f4) : k49.M w base ok x [v0, v1, v2, v3, v4] := ⟨[v0], [v1, v2, v3, v4], rfl, ⟨v0, rfl, g0⟩, ⟨[v1], [v2, v3, v4], rfl, ⟨v1, rfl, g1⟩, ⟨[v2], [v3, v4], rfl, ⟨v2, rfl, g2⟩, ⟨[v3], [v4], rfl, ⟨v3, rfl, g3⟩, ⟨v4, rfl, g4⟩⟩⟩⟩⟩
def rd_T49 (xs : List S49) (i : Int) : S49 := xs.getD i.toNat z49
theorem at_T49 {w : World} {A : Option Addr} {n : Nat} {xs : List S49} (h : Kd.C k49 w A n xs) (i : Int) (h0 : 0 ≤ i) (h1 : i < n) : ∃ ad A0 c0 A1 c1 A2 c2 A3 c3 A4 c4, A = some ad ∧ w.cell? (ad.add (i.toNat * 5)) = some (.slice A0 (rd_T49 xs i).f0.length c0) ∧ w.cell? ⟨(ad.add (i.toNat * 5)).block, (ad.add (i.toNat * 5)).off + 1, none⟩ = some (.slice A1 (rd_T49 xs i).f1.length c1) ∧ w.cell? ⟨(ad.add (i.toNat * 5)).block, (ad.add (i.toNat * 5)).off + 2, none⟩ = some (.slice A2 (rd_T49 xs i).f2.length c2) ∧ w.cell? ⟨(ad.add (i.toNat * 5)).block, (ad.add (i.toNat * 5)).off + 3, none⟩ = some (.slice A3 (rd_T49 xs i).f3.length c3) ∧ w.cell? ⟨(ad.add (i.toNat * 5)).block, (ad.add (i.toNat * 5)).off + 4, none⟩ = some (.slice A4 (rd_T49 xs i).f4.length c4) ∧ (rd_T49 xs i).f0.length ≤ c0 ∧ (Kd.slice 3 (Kd.int .i64)).C w A0 (rd_T49 xs i).f0.length (rd_T49 xs i).f0 ∧ (rd_T49 xs i).f1.length ≤ c1 ∧ (Kd.slice 3 (Kd.int .i64)).C w A1 (rd_T49 xs i).f1.length (rd_T49 xs i).f1 ∧ (rd_T49 xs i).f2.length ≤ c2 ∧ (Kd.slice 3 (Kd.int .i64)).C w A2 (rd_T49 xs i).f2.length (rd_T49 xs i).f2 ∧ (rd_T49 xs i).f3.length ≤ c3 ∧ (Kd.int .i64).C w A3 (rd_T49 xs i).f3.length (rd_T49 xs i).f3 ∧ (rd_T49 xs i).f4.length ≤ c4 ∧ k60.C w A4 (rd_T49 xs i).f4.length (rd_T49 xs i).f4 := by
  obtain ⟨ad, c, e, _, hK, hc0⟩ := Kd.C_get h z49 i h0 h1
  have hc : ∀ j u, c[j]? = some u → w.cell? (ad.add (i.toNat * 5 + j)) = some u := hc0
  obtain ⟨A0, c0, A1, c1, A2, c2, A3, c3, A4, c4, rfl, l0, g0, l1, g1, l2, g2, l3, g3, l4, g4⟩ := k49_open hK
  exact ⟨ad, A0, c0, A1, c1, A2, c2, A3, c3, A4, c4, e, hc 0 _ rfl, by rw [← add_field _ _ 1 (by omega)]; exact hc 1 _ rfl, by rw [← add_field _ _ 2 (by omega)]; exact hc 2 _ rfl, by rw [← add_field _ _ 3 (by omega)]; exact hc 3 _ rfl, by rw [← add_field _ _ 4 (by omega)]; exact hc 4 _ rfl, l0, g0, l1, g1, l2, g2, l3, g3, l4, g4⟩

def rd_L6 (xs : List (List S49)) (i : Int) : (List S49) := xs.getD i.toNat ([] : List S49)
/-! #### struct type 24 -/
structure S24 where
  f0 : (List S49)
def z24 : S24 := ⟨([] : List S49)⟩
def k24 : Kd S24 := Kd.iso (Kd.slice 49 k49) (fun x : S24 => x.f0)
theorem k24_open {w : World} {x : S24} {cs : List Value} (h : k24.K w x cs) : ∃ A0 c0, cs = [.slice A0 x.f0.length c0] ∧ x.f0.length ≤ c0 ∧ k49.C w A0 x.f0.length x.f0 := by
  obtain ⟨A0, c0, rfl, l0, g0⟩ := h
  exact ⟨A0, c0, rfl, l0, g0⟩
theorem k24_mk (w : World) (x : S24) {A0 : Option Addr} {c0 : Nat} (l0 : x.f0.length ≤ c0) (g0 : k49.C w A0 x.f0.length x.f0) : k24.K w x [.slice A0 x.f0.length c0] := ⟨A0, c0, rfl, l0, g0⟩
theorem k24_mkM (w : World) (base : Nat) (ok : Nat → Prop) (x : S24) {v0 : Value} (g0 : k49.R 49 w base ok v0 x.f0) : k24.M w base ok x [v0] := ⟨v0, rfl, g0⟩
def rd_T24 (xs : List S24) (i : Int) : S24 := xs.getD i.toNat z24
theorem at_T24 {w : World} {A : Option Addr} {n : Nat} {xs : List S24} (h : Kd.C k24 w A n xs) (i : Int) (h0 : 0 ≤ i) (h1 : i < n) : ∃ ad A0 c0, A = some ad ∧ w.cell? (ad.add i.toNat) = some (.slice A0 (rd_T24 xs i).f0.length c0) ∧ (rd_T24 xs i).f0.length ≤ c0 ∧ k49.C w A0 (rd_T24 xs i).f0.length (rd_T24 xs i).f0 := by
  obtain ⟨ad, c, e, _, hK, hc0⟩ := Kd.C_get h z24 i h0 h1
  have hc : ∀ j u, c[j]? = some u → w.cell? (ad.add (i.toNat * 1 + j)) = some u := hc0
  obtain ⟨A0, c0, rfl, l0, g0⟩ := k24_open hK
  exact ⟨ad, A0, c0, e, by have hq := hc 0 _ rfl; rwa [Nat.mul_one, Nat.add_zero] at hq, l0, g0⟩

/-! #### struct type 55 -/
structure S55 where
  f0 : Int
  f1 : Int
def z55 : S55 := ⟨(0 : Int), (0 : Int)⟩
def k55 : Kd S55 := Kd.iso (Kd.pair (Kd.int .i64) (Kd.int .i64)) (fun x : S55 => (x.f0, x.f1))
theorem k55_open {w : World} {x : S55} {cs : List Value} (h : k55.K w x cs) : cs = [.int .i64 x.f0, .int .i64 x.f1] := by
  obtain ⟨_, _, rfl, rfl, rfl⟩ := h
  exact rfl
theorem k55_mkM (w : World) (base : Nat) (ok : Nat → Prop) (x : S55)  : k55.M w base ok x [.int .i64 x.f0, .int .i64 x.f1] := ⟨[.int .i64 x.f0], [.int .i64 x.f1], rfl, rfl, rfl⟩
def rd_T55 (xs : List S55) (i : Int) : S55 := xs.getD i.toNat z55
theorem at_T55 {w : World} {A : Option Addr} {n : Nat} {xs : List S55} (h : Kd.C k55 w A n xs) (i : Int) (h0 : 0 ≤ i) (h1 : i < n) : ∃ ad , A = some ad ∧ w.cell? (ad.add (i.toNat * 2)) = some (.int .i64 (rd_T55 xs i).f0) ∧ w.cell? ⟨(ad.add (i.toNat * 2)).block, (ad.add (i.toNat * 2)).off + 1, none⟩ = some (.int .i64 (rd_T55 xs i).f1) := by
  obtain ⟨ad, c, e, _, hK, hc0⟩ := Kd.C_get h z55 i h0 h1
  have hc : ∀ j u, c[j]? = some u → w.cell? (ad.add (i.toNat * 2 + j)) = some u := hc0
  obtain rfl := k55_open hK
  exact ⟨ad, e, hc 0 _ rfl, by rw [← add_field _ _ 1 (by omega)]; exact hc 1 _ rfl⟩

def rd_L9 (xs : List (List S55)) (i : Int) : (List S55) := xs.getD i.toNat ([] : List S55)
def rd_L10 (xs : List (List S24)) (i : Int) : (List S24) := xs.getD i.toNat ([] : List S24)
def rd_L12 (xs : List (List Bool)) (i : Int) : (List Bool) := xs.getD i.toNat ([] : List Bool)
end Go.Proofs.Ytlgkeaildncojaa.Q
end
section
/- Things of one's own in a walk by hand: what lies behind a world's elder blocks, told as a list; every event turns one of them. Template: Ytlgkeaildncojaa is the seat's Name. -/
set_option linter.unusedVariables false
set_option linter.unusedSimpArgs false
namespace Go.Proofs.Ytlgkeaildncojaa.Q
open Go.RowKit Go.Proofs.YtlgkeaildncojaaW.PrintWords Go.Proofs.YtlgkeaildncojaaW.PrintLast Go.Proofs.YtlgkeaildncojaaW.PrintMore

/-- A block of cells. -/
def Solid (W : World) (k : Nat) : Prop := ∃ o, W.heap[k]? = some o ∧ o.isCells = true
theorem solid_cells {W : World} {k : Nat} {cs : Array Value} {t : TypeId} {fz : Nat × Nat} (h : W.heap[k]? = some (.cells cs t fz)) : Solid W k := ⟨_, h, rfl⟩
/-- A thing of one's own: what it says of a world, its blocks (all of cells) being among 'ok'. -/
structure Res where
  P : World → (Nat → Prop) → Prop
  move : ∀ {W W' : World} {ok ok' : Nat → Prop}, P W ok → (∀ k, ok k → k < W.heap.size → Solid W k → W'.heap[k]? = W.heap[k]? ∧ ok' k) → P W' ok'

def Res.emp : Res := ⟨fun _ _ => True, fun _ _ => trivial⟩
/-- A variable in memory. -/
def Res.box (g t : Nat) (cs : Array Value) : Res := ⟨fun W ok => ok g ∧ W.heap[g]? = some (.cells cs t (0, 0)), fun h hm =>
  have h1 := hm g h.1 (blk_lt h.2) (solid_cells h.2); ⟨h1.2, h1.1.trans h.2⟩⟩
/-- A row, with all that its elements lead to. -/
def Res.row {α : Type} (d : Kd α) (e B : Nat) (v : Value) (xs : List α) : Res := ⟨fun W ok => d.R e W B ok v xs, fun {W W' ok ok'} h hm => by
  have key : ∀ k, ok k ∧ B ≤ k ∧ k < W.heap.size ∧ (∃ q, q ∈ e :: d.E ∧ ∃ cells, W.heap[k]? = some (.cells cells q (0, 0))) → W'.heap[k]? = W.heap[k]? ∧ ok' k := fun k hk => by
    obtain ⟨h1, _, h2, q, _, cells, hc⟩ := hk
    exact hm k h1 h2 (solid_cells hc)
  exact Kd.R_mono (Kd.R_move (Kd.R_bound h) (fun k hk => (key k hk).1)) (fun k hk => (key k hk).2)⟩
/-- A value's cells, with all that they lead to. -/
def Res.val {α : Type} (d : Kd α) (B : Nat) (x : α) (cs : List Value) : Res := ⟨fun W ok => d.M W B ok x cs, fun {W W' ok ok'} h hm => by
  have key : ∀ k, ok k ∧ B ≤ k ∧ k < W.heap.size ∧ (∃ q, q ∈ d.E ∧ ∃ cells, W.heap[k]? = some (.cells cells q (0, 0))) → W'.heap[k]? = W.heap[k]? ∧ ok' k := fun k hk => by
    obtain ⟨h1, _, h2, q, _, cells, hc⟩ := hk
    exact hm k h1 h2 (solid_cells hc)
  exact d.M_mono (fun k hk => (key k hk).2) (d.M_move (fun k hk => (key k hk).1) (d.M_bound h))⟩

/-- What is one's own in W since w: the things of L, in blocks apart; what is no cells and in K, is there. -/
structure Own (w W : World) (L : List Res) (K : Nat → Obj → Prop := fun _ _ => False) : Prop where
  below : Below w.heap.size w W
  keeps : ∀ k o, K k o → W.heap[k]? = some o ∧ o.isCells = false
  slots : ∃ F : Nat → Nat, ∀ (i : Nat) (r : Res), L[i]? = some r → r.P W (fun k => w.heap.size ≤ k ∧ F k = i)

theorem Own.start (w : World) : Own w w [] := ⟨Below.refl _ _, fun _ _ h => h.elim, fun _ => 0, fun i r h => by simp at h⟩
theorem Own.le {w W : World} {L : List Res} {K : Nat → Obj → Prop} (h : Own w W L K) : w.heap.size ≤ W.heap.size := h.below.size

/-- What is elder, and every thing: as it was, where only new blocks were laid. -/
theorem Own.grow {w W W' : World} {L : List Res} {K : Nat → Obj → Prop} (h : Own w W L K) (hb : Below W.heap.size W W') : Own w W' L K := by
  obtain ⟨h1, hk0, F, h2⟩ := h
  exact ⟨below_step h1 hb, fun k o hk => ⟨(hb.block k (blk_lt (hk0 k o hk).1)).trans (hk0 k o hk).1, (hk0 k o hk).2⟩, F, fun i r hi => r.move (h2 i r hi) (fun k hk hl _ => ⟨hb.block k hl, hk⟩)⟩
theorem Own.alloc {w W : World} {L : List Res} {K : Nat → Obj → Prop} (h : Own w W L K) (o : Obj) : Own w (W.alloc o) L K := h.grow (below_alloc (Below.refl _ _) o)
theorem Own.drew {w W : World} {L : List Res} {K : Nat → Obj → Prop} (h : Own w W L K) : Own w W.drew L K := h.grow (below_drew (Below.refl _ _))
theorem Own.drewN {w W : World} {L : List Res} {K : Nat → Obj → Prop} (h : Own w W L K) (n : Nat) : Own w (W.drewN n) L K := h.grow (pw_below_drewN (Below.refl _ _) n)
theorem not_solid {W : World} {k : Nat} {o : Obj} (h : W.heap[k]? = some o) (ho : o.isCells = false) : ¬ Solid W k := by
  rintro ⟨o', h2, h3⟩
  rw [h] at h2
  cases h2
  rw [ho] at h3
  cases h3

/-- The great law: some things turn ('S': their colours); the others are as they were. -/
theorem Own.turn0 {w W W' : World} {L' : List Res} {K : Nat → Obj → Prop} (F F' : Nat → Nat) (h1 : Below w.heap.size w W) (hk0 : ∀ k o, K k o → W.heap[k]? = some o ∧ o.isCells = false)
    (hos : W'.os = W.os) (htp : W'.tape = W.tape) (hou : W'.output = W.output) (hsz : W.heap.size ≤ W'.heap.size) (S : Nat → Prop)
    (hsame : ∀ k, k < W.heap.size → ¬ (w.heap.size ≤ k ∧ S (F k) ∧ Solid W k) → W'.heap[k]? = W.heap[k]?)
    (hL : ∀ (i : Nat) (r : Res), L'[i]? = some r → r.P W' (fun k => w.heap.size ≤ k ∧ F' k = i)) : Own w W' L' K := by
  have hle := h1.size
  refine ⟨⟨hos.trans h1.os, htp.trans h1.tape, hou.trans h1.output, by omega, fun k hk => (hsame k (by omega) (fun h => by omega)).trans (h1.block k hk)⟩, fun k o hk => ?_, F', hL⟩
  obtain ⟨h2, h3⟩ := hk0 k o hk
  exact ⟨(hsame k (blk_lt h2) (fun h => not_solid h2 h3 h.2.2)).trans h2, h3⟩
/-- One thing turns. -/
theorem Own.turn {w W W' : World} {L : List Res} {K : Nat → Obj → Prop} {r r' : Res} (h : Own w W L K) (i : Nat) (hi : L[i]? = some r) (hos : W'.os = W.os) (htp : W'.tape = W.tape) (hou : W'.output = W.output) (hsz : W.heap.size ≤ W'.heap.size)
    (step : ∀ ok : Nat → Prop, (∀ k, W.heap.size ≤ k → ok k) → r.P W ok → r'.P W' ok ∧ ∀ k, k < W.heap.size → ¬ (ok k ∧ Solid W k) → W'.heap[k]? = W.heap[k]?) : Own w W' (L.set i r') K := by
  obtain ⟨h1, hk0, F, h2⟩ := h
  have hle := h1.size
  obtain ⟨hP, hsame⟩ := step (fun k => w.heap.size ≤ k ∧ (k < W.heap.size → F k = i)) (fun k hk => ⟨by omega, fun hl => by omega⟩)
    (r.move (h2 i r hi) (fun k hk hl _ => ⟨rfl, hk.1, fun _ => hk.2⟩))
  refine Own.turn0 F (fun k => if k < W.heap.size then F k else i) h1 hk0 hos htp hou hsz (fun q => q = i) (fun k hk hn => hsame k hk (fun h3 => hn ⟨h3.1.1, h3.1.2 hk, h3.2⟩)) (fun j q hj => ?_)
  rw [List.getElem?_set] at hj
  have hil : i < L.length := (List.getElem?_eq_some_iff.mp hi).1
  by_cases e : i = j
  · subst e
    rw [if_pos rfl, if_pos hil] at hj
    injection hj with hj
    subst hj
    refine r'.move hP (fun k hk hl _ => ⟨rfl, hk.1, ?_⟩)
    split
    · rename_i hlt; exact hk.2 hlt
    · rfl
  · rw [if_neg e] at hj
    refine q.move (h2 j q hj) (fun k hk hl _ => ⟨hsame k hl (fun h3 => e ((h3.1.2 hl).symm.trans hk.2)), hk.1, ?_⟩)
    rw [if_pos hl]
    exact hk.2
/-- A thing told in other words. -/
theorem Own.say {w W : World} {L : List Res} {K : Nat → Obj → Prop} {r r' : Res} (h : Own w W L K) (i : Nat) (hi : L[i]? = some r) (step : ∀ ok : Nat → Prop, r.P W ok → r'.P W ok) : Own w W (L.set i r') K :=
  h.turn i hi rfl rfl rfl (Nat.le_refl _) (fun ok _ hp => ⟨step ok hp, fun _ _ _ => rfl⟩)
theorem Own.drop {w W : World} {L : List Res} {K : Nat → Obj → Prop} {r : Res} (h : Own w W L K) (i : Nat) (hi : L[i]? = some r) : Own w W (L.set i .emp) K := h.say i hi (fun _ _ => trivial)
theorem Own.take {w W : World} {L : List Res} {K : Nat → Obj → Prop} (M : List Res) (h : Own w W (L ++ M) K) : Own w W L K := by
  obtain ⟨h1, hk0, F, h2⟩ := h
  exact ⟨h1, hk0, F, fun i r hi => h2 i r (by rw [List.getElem?_append_left (List.getElem?_eq_some_iff.mp hi).1]; exact hi)⟩
theorem Own.upto {w W : World} {L : List Res} {K : Nat → Obj → Prop} (h : Own w W L K) (n : Nat) : Own w W (L.take n) K := by
  obtain ⟨h1, hk0, F, h2⟩ := h
  exact ⟨h1, hk0, F, fun i r hi => h2 i r (by rw [List.getElem?_take] at hi; split at hi; exact hi; cases hi)⟩
/-- Things in another order; some left out. 'p i': where thing i of the new list stood. -/
theorem Own.pick {w W : World} {L L' : List Res} {K : Nat → Obj → Prop} (h : Own w W L K) (p : List Nat) (hp : ∀ (i : Nat) (r : Res), L'[i]? = some r → ∃ j, p[i]? = some j ∧ L[j]? = some r) (hn : p.Nodup) : Own w W L' K := by
  obtain ⟨h1, hk0, F, h2⟩ := h
  refine ⟨h1, hk0, fun k => p.idxOf (F k), fun i r hi => ?_⟩
  obtain ⟨j, hj, hr⟩ := hp i r hi
  refine r.move (h2 j r hr) (fun k hk hl _ => ⟨rfl, hk.1, ?_⟩)
  dsimp only
  rw [hk.2]
  obtain ⟨hlt, he⟩ := List.getElem?_eq_some_iff.mp hj
  rw [← he]
  exact hn.idxOf_getElem i hlt
/-- A new thing, in new blocks. -/
theorem Own.add {w W W' : World} {L : List Res} {K : Nat → Obj → Prop} {r : Res} (h : Own w W L K) (hb : Below W.heap.size W W') (hr : r.P W' (fun k => W.heap.size ≤ k)) : Own w W' (L ++ [r]) K := by
  obtain ⟨h1, hk0, F, h2⟩ := h
  have hle := h1.size
  refine ⟨below_step h1 hb, fun k o hk => ⟨(hb.block k (blk_lt (hk0 k o hk).1)).trans (hk0 k o hk).1, (hk0 k o hk).2⟩, fun k => if k < W.heap.size then (if F k < L.length then F k else F k + 1) else L.length, fun i q hi => ?_⟩
  by_cases hil : i < L.length
  · rw [List.getElem?_append_left hil] at hi
    refine q.move (h2 i q hi) (fun k hk hl _ => ⟨hb.block k hl, hk.1, ?_⟩)
    dsimp only
    rw [if_pos hl, hk.2, if_pos hil]
  · have hii : i = L.length := by
      have := (List.getElem?_eq_some_iff.mp hi).1
      rw [List.length_append, List.length_singleton] at this
      omega
    subst hii
    rw [List.getElem?_append_right (Nat.le_refl _), Nat.sub_self] at hi
    injection hi with hi
    subst hi
    exact r.move hr (fun k hk hl _ => ⟨rfl, by omega, if_neg (by omega)⟩)
/-- Another block that is no cells has turned. -/
theorem Own.other {w W W' : World} {L : List Res} {K : Nat → Obj → Prop} {row : Option Nat} (h : Own w W L K) (hg : W.grownBy W' row) (hr : ∀ r, row = some r → w.heap.size ≤ r ∧ (∀ o, ¬ K r o) ∧ ∃ o : Obj, W.heap[r]? = some o ∧ o.isCells = false) : Own w W' L K := by
  obtain ⟨h1, hk0, F, h2⟩ := h
  have hle := h1.size
  refine ⟨⟨hg.os.trans h1.os, hg.tape.trans h1.tape, hg.output.trans h1.output, Nat.le_trans hle hg.size, fun k hk => (hg.block k (by omega) (fun e => by have := (hr k e.symm).1; omega)).trans (h1.block k hk)⟩, fun k o hk => ⟨(hg.block k (blk_lt (hk0 k o hk).1) (fun e => (hr k e.symm).2.1 o hk)).trans (hk0 k o hk).1, (hk0 k o hk).2⟩, F, fun i r hi => r.move (h2 i r hi) (fun k hk hl hs => ⟨hg.block k hl (fun e => ?_), hk⟩)⟩
  obtain ⟨o, ho, hc⟩ := (hr k e.symm).2.2
  exact not_solid ho hc hs

/-! ### what is read -/
section
variable {w W : World} {L : List Res} {K : Nat → Obj → Prop}
theorem Own.box_at {g t : Nat} {cs : Array Value} (h : Own w W L K) (i : Nat) (hi : L[i]? = some (.box g t cs)) : W.heap[g]? = some (.cells cs t (0, 0)) ∧ w.heap.size ≤ g := by
  obtain ⟨_, _, F, h2⟩ := h
  exact ⟨(h2 i _ hi).2, (h2 i _ hi).1.1⟩
theorem Own.box_cell {g t : Nat} {cs : Array Value} (h : Own w W L K) (i : Nat) (hi : L[i]? = some (.box g t cs)) (j : Nat) {u : Value} (hj : cs[j]? = some u) : W.cell? ⟨g, j, none⟩ = some u := (blk_cell (h.box_at i hi).1 j).trans hj
theorem Own.box_free {g t : Nat} {cs : Array Value} (h : Own w W L K) (i : Nat) (hi : L[i]? = some (.box g t cs)) (j : Nat) : W.frozen? ⟨g, j, none⟩ = false := blk_frozen (h.box_at i hi).1 j
theorem Own.box_ne {g g' t t' : Nat} {cs cs' : Array Value} (h : Own w W L K) (i j : Nat) (hij : i ≠ j) (hi : L[i]? = some (.box g t cs)) (hj : L[j]? = some (.box g' t' cs')) : g ≠ g' := by
  obtain ⟨_, _, F, h2⟩ := h
  rintro rfl
  exact hij ((h2 i _ hi).1.2.symm.trans (h2 j _ hj).1.2)
theorem Own.row_at {α : Type} {d : Kd α} {e B : Nat} {v : Value} {xs : List α} (h : Own w W L K) (i : Nat) (hi : L[i]? = some (.row d e B v xs)) : ∃ A c, v = .slice A xs.length c ∧ xs.length ≤ c ∧ d.C W A xs.length xs := by
  obtain ⟨_, _, F, h2⟩ := h
  exact Kd.R_reads (h2 i _ hi)
theorem Own.row_sl {α : Type} {d : Kd α} {e B n c : Nat} {A : Option Addr} {xs : List α} (h : Own w W L K) (i : Nat) (hi : L[i]? = some (.row d e B (.slice A n c) xs)) : n = xs.length ∧ n ≤ c ∧ d.C W A xs.length xs := by
  obtain ⟨_, _, F, h2⟩ := h
  exact Kd.R_reads' (h2 i _ hi)
theorem Own.row_R {α : Type} {d : Kd α} {e B : Nat} {v : Value} {xs : List α} (h : Own w W L K) (i : Nat) (hi : L[i]? = some (.row d e B v xs)) : d.R e W B (fun _ => True) v xs := by
  obtain ⟨_, _, F, h2⟩ := h
  exact Kd.R_mono (h2 i _ hi) (fun _ _ => trivial)
theorem Own.old {α : Type} {d : Kd α} {A : Option Addr} {n : Nat} {xs : List α} (h : Own w W L K) (hr : d.C w A n xs) : d.C W A n xs := Kd.C_below hr h.below
end

/-! ### events -/
/-- A variable in memory is written, at the cells from o on. -/
theorem Own.write {w W : World} {L : List Res} {K : Nat → Obj → Prop} {g t : Nat} {cs cs' : Array Value} (h : Own w W L K) (i : Nat) (hi : L[i]? = some (.box g t cs)) (o : Nat) (vs : List Value) (hl : o + vs.length ≤ cs.size) (hc : (cs.toList.take o ++ vs ++ cs.toList.drop (o + vs.length)).toArray = cs') : Own w (W.setCells g o vs) (L.set i (.box g t cs')) K := by
  obtain ⟨h1, h2, h3, h4⟩ := setCells_same g vs o W
  refine h.turn i hi h1 h2 h3 (by omega) (fun ok hf hp => ⟨⟨hp.1, ?_⟩, fun k hk hn => setCells_far vs o k (fun e => hn (e ▸ ⟨hp.1, solid_cells hp.2⟩))⟩)
  obtain ⟨cur, hc1, hc2, hc3⟩ := setCells_row vs o W cs hp.2 hl
  rw [hc1, ← hc, ← hc3]
theorem Own.put {w W : World} {L : List Res} {K : Nat → Obj → Prop} {g t : Nat} {cs cs' : Array Value} (h : Own w W L K) (i : Nat) (hi : L[i]? = some (.box g t cs)) (o : Nat) (u : Value) (hl : o < cs.size) (hc : cs.setIfInBounds o u = cs') : Own w (W.setCell ⟨g, o, none⟩ u) (L.set i (.box g t cs')) K :=
  h.turn i hi rfl rfl rfl (by simp [World.setCell]) (fun ok hf hp => ⟨⟨hp.1, by rw [← hc]; exact blk_set hp.2 o u⟩, fun k hk hn => Below.heap_setCell W _ u k (fun e => hn (e ▸ ⟨hp.1, solid_cells hp.2⟩))⟩)
section
variable {P : Program} {ops : Array Oper} {rest : List Oper} {o : Oper} {a : Act} {Q : Exit → Act → World → Prop} {w W : World} {L : List Res} {K : Nat → Obj → Prop}
/-- A new variable in memory. -/
theorem ev_box {cs : Array Value} {t N : Nat} (HO : Own w W L K) (hgd : o.guard = none) (_hd : o.dst = some N)
    (hrun : (execOp a.eval o).run P W = .ok (.value (.pointer (some ⟨W.heap.size, 0, none⟩))) (W.alloc (.cells cs t (0, 0))))
    (h : ∀ g W', Own w W' (L ++ [.box g t cs]) K → Below W.heap.size W W' → wpList P ops Q rest (a.put o.dst (.pointer (some ⟨g, 0, none⟩))) W') : wpList P ops Q (o :: rest) a W := by
  refine Kd.event_run hgd hrun (h _ _ (HO.add (below_alloc (Below.refl _ _) _) ⟨Nat.le_refl _, blk_new W _⟩) (below_alloc (Below.refl _ _) _))
/-- A variable in memory is written whole or in part: a value of some cells. -/
theorem ev_storeS {g t : Nat} {cs cs' : Array Value} {ty : TypeId} {p : Tmp} {x : Operand} (v : Value) (i : Nat) (HO : Own w W L K) (hi : L[i]? = some (.box g t cs)) (hgd : o.guard = none) (ho : o.op = .store ty (.tmp p) x) (hN : o.dst = none) (q : Nat)
    (hp : a.eval (.tmp p) = .pointer (some ⟨g, q, none⟩)) (hv : a.eval x = v) (hty : (P.info? ty).map (·.size) = some v.cells.size) (h1 : ∀ u ∈ v.cells.toList, u.oneCell' = true) (hl : q + v.cells.toList.length ≤ cs.size)
    (hc : (cs.toList.take q ++ v.cells.toList ++ cs.toList.drop (q + v.cells.toList.length)).toArray = cs')
    (h : ∀ W', W'.heap.size = W.heap.size → Own w W' (L.set i (.box g t cs')) K → wpList P ops Q rest a W') : wpList P ops Q (o :: rest) a W := by
  refine wpList_plain hgd fun K hK => ?_
  have hb := (HO.box_at i hi).1
  have hrun : (execOp a.eval o).run P W = .ok .skip (W.setCells g q v.cells.toList) := by
    have h2 := run_storeCells_cells (P := P) g q v.cells.toList 0 W (fun j hj => by
        rw [Nat.add_zero, blk_cell hb, Array.getElem?_eq_getElem (by omega)]; rfl) (fun j hj => blk_frozen hb _) h1
    rw [Nat.add_zero] at h2
    cases hq : P.info? ty with
    | none => simp [hq] at hty
    | some inf =>
      have hs : v.cells.size = inf.size := by simp [hq] at hty; omega
      unfold execOp
      simp only [ho, hp, hv, Instr.storeAt, Instr.sureAddr, Sem.run_bind, Sem.run_pure, Result.andThen_ok]
      simp [storeVar, sizeOf, typeInfo, hq, hs, h2, Result.andThen]
  unfold Oper.wp
  rw [hrun]
  show K (a.put o.dst undef) _
  rw [hN]
  exact hK _ _ (h _ (setCells_same g _ q W).2.2.2 (HO.write i hi q _ hl hc))
/-- A variable in memory is written whole or in part: a value of some cells. -/
theorem ev_store {g t : Nat} {cs cs' : Array Value} {ty : TypeId} {p : Tmp} {x : Operand} (v : Value) (i : Nat) (HO : Own w W L K) (hi : L[i]? = some (.box g t cs)) (hgd : o.guard = none) (ho : o.op = .store ty (.tmp p) x) (hN : o.dst = none) (q : Nat)
    (hp : a.eval (.tmp p) = .pointer (some ⟨g, q, none⟩)) (hv : a.eval x = v) (hty : (P.info? ty).map (·.size) = some v.cells.size) (h1 : ∀ u ∈ v.cells.toList, u.oneCell' = true) (hl : q + v.cells.toList.length ≤ cs.size)
    (hc : (cs.toList.take q ++ v.cells.toList ++ cs.toList.drop (q + v.cells.toList.length)).toArray = cs')
    (h : ∀ W', Own w W' (L.set i (.box g t cs')) K → wpList P ops Q rest a W') : wpList P ops Q (o :: rest) a W :=
  ev_storeS v i HO hi hgd ho hN q hp hv hty h1 hl hc (fun W' _ => h W')
/-- append of one element. 'hM': the element, told; it leads to nothing of its own. -/
theorem ev_append {α : Type} {d : Kd α} {e : Nat} {v : Value} {xs : List α} (i : Nat) (HO : Own w W L K) (hi : L[i]? = some (.row d e w.heap.size v xs)) (hgd : o.guard = none) (s x : Operand) (t : TypeId) (z : Value) (bytes : Nat)
    (ho : o.op = .call { callee := .builtin .append, args := #[s, x], argTypes := #[t, t] })
    (ht : P.underlying t = some (.slice e)) (hinfo : (P.info? e).map (fun i => (i.zero, i.size, i.bytes)) = some (some z, d.sz, bytes)) (hz : z.cells.size = d.sz) (hs0 : 0 < d.sz) (hb0 : 0 < bytes)
    (p : α) (cs : List Value) (hs : a.eval s = v) (hx : a.eval x = .slice (some ⟨W.heap.size, 0, none⟩) 1 1) (hM : d.M W w.heap.size (fun _ => False) p cs) (hl : (xs.length + 1) * bytes ≤ 140737488355328)
    (h : ∀ A c W', Own w W' (L.set i (.row d e w.heap.size (.slice A (xs.length + 1) c) (xs ++ [p]))) K → wpList P ops Q rest (a.put o.dst (.slice A (xs.length + 1) c)) W') : wpList P ops Q (o :: rest) a (W.alloc (.cells cs.toArray e)) := by
  obtain ⟨h1, hk0, F, h2⟩ := HO
  have hle := h1.size
  have hR : d.R e W w.heap.size (fun k => w.heap.size ≤ k ∧ (k < W.heap.size → F k = i)) v xs := Kd.R_mono (Kd.R_bound (h2 i _ hi)) (fun k hk => ⟨hk.1.1, fun _ => hk.1.2⟩)
  refine Kd.R_append d (w0 := w) w.heap.size hgd s x t e z bytes ho ht hinfo hz hs0 hb0 v xs p cs _ (fun _ => False) hs hx hM (fun _ hk => hk.elim) (fun k hk => ⟨by omega, fun hl => by omega⟩) hR h1 hle hl ?_
  intro v1 w1 hR1 hb1 hg1 hat
  obtain ⟨A, c, rfl⟩ := Kd.R_slice hR1
  rw [List.length_append, List.length_singleton] at hR1 ⊢
  have hSol : ∀ k, some k = v.ownBlock → Solid W k := fun k he => by obtain ⟨_, inner, ho2, _⟩ := hR; obtain ⟨cs2, hc2⟩ := own_typed ho2 k he.symm; exact solid_cells hc2
  refine h A c w1 ⟨hb1, fun k o hk => ⟨(hg1.block k (blk_lt (hk0 k o hk).1) (fun he => not_solid (hk0 k o hk).1 (hk0 k o hk).2 (hSol k he))).trans (hk0 k o hk).1, (hk0 k o hk).2⟩, fun k => if k < W.heap.size then F k else i, fun j q hj => ?_⟩
  have hil : i < L.length := (List.getElem?_eq_some_iff.mp hi).1
  rw [List.getElem?_set] at hj
  by_cases e1 : i = j
  · subst e1
    rw [if_pos rfl, if_pos hil] at hj
    injection hj with hj
    subst hj
    refine Kd.R_mono hR1 (fun k hk => ⟨hk.1, ?_⟩)
    dsimp only
    split
    · rename_i hlt; exact hk.2 hlt
    · rfl
  · rw [if_neg e1] at hj
    refine q.move (h2 j q hj) (fun k hk hl _ => ⟨hg1.block k hl (fun he => e1 ?_), hk.1, by dsimp only; rw [if_pos hl]; exact hk.2⟩)
    exact ((h2 i _ hi).1 k he.symm).2.symm.trans hk.2
/-- append of one element that leads to things of its own (place j, told as a value). -/
theorem ev_appendv {α : Type} {d : Kd α} {e : Nat} {v : Value} {xs : List α} {p : α} {cs : List Value} (i j : Nat) (hij : i ≠ j) (HO : Own w W L K) (hi : L[i]? = some (.row d e w.heap.size v xs)) (hj : L[j]? = some (.val d w.heap.size p cs)) (hgd : o.guard = none) (s x : Operand) (t : TypeId) (z : Value) (bytes : Nat)
    (ho : o.op = .call { callee := .builtin .append, args := #[s, x], argTypes := #[t, t] })
    (ht : P.underlying t = some (.slice e)) (hinfo : (P.info? e).map (fun i => (i.zero, i.size, i.bytes)) = some (some z, d.sz, bytes)) (hz : z.cells.size = d.sz) (hs0 : 0 < d.sz) (hb0 : 0 < bytes)
    (hs : a.eval s = v) (hx : a.eval x = .slice (some ⟨W.heap.size, 0, none⟩) 1 1) (hl : (xs.length + 1) * bytes ≤ 140737488355328)
    (h : ∀ A c W', Own w W' ((L.set j .emp).set i (.row d e w.heap.size (.slice A (xs.length + 1) c) (xs ++ [p]))) K → wpList P ops Q rest (a.put o.dst (.slice A (xs.length + 1) c)) W') : wpList P ops Q (o :: rest) a (W.alloc (.cells cs.toArray e)) := by
  obtain ⟨h1, hk0, F, h2⟩ := HO
  have hle := h1.size
  have hRi := h2 i _ hi
  have hR : d.R e W w.heap.size (fun k => w.heap.size ≤ k ∧ (k < W.heap.size → F k = i ∨ F k = j)) v xs := Kd.R_mono hRi (fun k hk => ⟨hk.1, fun _ => .inl hk.2⟩)
  refine Kd.R_append d (w0 := w) w.heap.size hgd s x t e z bytes ho ht hinfo hz hs0 hb0 v xs p cs _ (fun k => w.heap.size ≤ k ∧ F k = j) hs hx (h2 j _ hj) (fun k hk => ⟨⟨hk.1, fun _ => .inr hk.2⟩, fun he => hij ((hRi.1 k he.symm).2.symm.trans hk.2)⟩) (fun k hk => ⟨by omega, fun hl => by omega⟩) hR h1 hle hl ?_
  intro v1 w1 hR1 hb1 hg1 hat
  obtain ⟨A, c, rfl⟩ := Kd.R_slice hR1
  rw [List.length_append, List.length_singleton] at hR1 ⊢
  have hSol : ∀ k, some k = v.ownBlock → Solid W k := fun k he => by obtain ⟨_, inner, ho2, _⟩ := hR; obtain ⟨cs2, hc2⟩ := own_typed ho2 k he.symm; exact solid_cells hc2
  refine h A c w1 ⟨hb1, fun k o hk => ⟨(hg1.block k (blk_lt (hk0 k o hk).1) (fun he => not_solid (hk0 k o hk).1 (hk0 k o hk).2 (hSol k he))).trans (hk0 k o hk).1, (hk0 k o hk).2⟩, fun k => if k < W.heap.size then (if F k = j then i else F k) else i, fun q r hq => ?_⟩
  have hil : i < L.length := (List.getElem?_eq_some_iff.mp hi).1
  have hjl : j < L.length := (List.getElem?_eq_some_iff.mp hj).1
  rw [List.getElem?_set] at hq
  by_cases e1 : i = q
  · subst e1
    rw [if_pos rfl, if_pos (by simpa using hil)] at hq
    injection hq with hq
    subst hq
    refine Kd.R_mono hR1 (fun k hk => ⟨hk.1, ?_⟩)
    dsimp only
    split
    · rename_i hlt
      split
      · rfl
      · rename_i hnj
        exact (hk.2 hlt).resolve_right hnj
    · rfl
  · rw [if_neg e1, List.getElem?_set] at hq
    by_cases e2 : j = q
    · subst e2
      rw [if_pos rfl, if_pos hjl] at hq
      injection hq with hq
      subst hq
      trivial
    · rw [if_neg e2] at hq
      refine r.move (h2 q r hq) (fun k hk hl _ => ⟨hg1.block k hl (fun he => e1 ((hRi.1 k he.symm).2.symm.trans hk.2)), hk.1, ?_⟩)
      dsimp only
      rw [if_pos hl, if_neg (fun h3 => e2 (h3.symm.trans hk.2))]
      exact hk.2
/-- append of a row that is read. -/
theorem ev_rows {α : Type} {d : Kd α} {e : Nat} {v : Value} {xs : List α} {Rr : α → List Value → Prop} (i : Nat) (HO : Own w W L K) (hi : L[i]? = some (.row d e w.heap.size v xs)) (hgd : o.guard = none) (s x : Operand) (t : TypeId) (z : Value) (bytes : Nat)
    (ho : o.op = .call { callee := .builtin .append, args := #[s, x], argTypes := #[t, t] })
    (ht : P.underlying t = some (.slice e)) (hinfo : (P.info? e).map (fun i => (i.zero, i.size, i.bytes)) = some (some z, d.sz, bytes)) (hz : z.cells.size = d.sz) (hs0 : 0 < d.sz) (hb0 : 0 < bytes)
    (ys : List α) (A1 : Option Addr) (c1 : Nat) (hs : a.eval s = v) (hx : a.eval x = .slice A1 ys.length c1) (HR : ReadsRow Rr d.sz W A1 ys.length ys) (hKM : ∀ x cs, Rr x cs → d.M W w.heap.size (fun _ => False) x cs) (hl : (xs.length + ys.length) * bytes ≤ 140737488355328)
    (h : ∀ A c W', Own w W' (L.set i (.row d e w.heap.size (.slice A (xs ++ ys).length c) (xs ++ ys))) K → wpList P ops Q rest (a.put o.dst (.slice A (xs ++ ys).length c)) W') : wpList P ops Q (o :: rest) a W := by
  obtain ⟨h1, hk0, F, h2⟩ := HO
  have hle := h1.size
  have hR : d.R e W w.heap.size (fun k => w.heap.size ≤ k ∧ (k < W.heap.size → F k = i)) v xs := Kd.R_mono (Kd.R_bound (h2 i _ hi)) (fun k hk => ⟨hk.1.1, fun _ => hk.1.2⟩)
  refine Kd.R_append_rows d (w0 := w) w.heap.size hgd s x t e z bytes ho ht hinfo hz hs0 hb0 v xs ys A1 ys.length c1 _ (fun _ => False) hs hx hR HR hKM (fun _ hk => hk.elim) (fun k hk => ⟨by omega, fun hl => by omega⟩) h1 hle hl ?_
  intro v1 w1 hR1 hb1 hg1 hat
  obtain ⟨A, c, rfl⟩ := Kd.R_slice hR1
  have hSol : ∀ k, some k = v.ownBlock → Solid W k := fun k he => by obtain ⟨_, inner, ho2, _⟩ := hR; obtain ⟨cs2, hc2⟩ := own_typed ho2 k he.symm; exact solid_cells hc2
  refine h A c w1 ⟨hb1, fun k o hk => ⟨(hg1.block k (blk_lt (hk0 k o hk).1) (fun he => not_solid (hk0 k o hk).1 (hk0 k o hk).2 (hSol k he))).trans (hk0 k o hk).1, (hk0 k o hk).2⟩, fun k => if k < W.heap.size then F k else i, fun j q hj => ?_⟩
  have hil : i < L.length := (List.getElem?_eq_some_iff.mp hi).1
  rw [List.getElem?_set] at hj
  by_cases e1 : i = j
  · subst e1
    rw [if_pos rfl, if_pos hil] at hj
    injection hj with hj
    subst hj
    refine Kd.R_mono hR1 (fun k hk => ⟨hk.1, ?_⟩)
    dsimp only
    split
    · rename_i hlt; exact hk.2 hlt
    · rfl
  · rw [if_neg e1] at hj
    refine q.move (h2 j q hj) (fun k hk hl _ => ⟨hg1.block k hl (fun he => e1 ?_), hk.1, by dsimp only; rw [if_pos hl]; exact hk.2⟩)
    exact ((h2 i _ hi).1 k he.symm).2.symm.trans hk.2
/-- A literal row. -/
theorem ev_lit {α : Type} (d : Kd α) (e : Nat) {N : Nat} {xs : List α} {inner : List Value} (HO : Own w W L K) (hgd : o.guard = none) (_hd : o.dst = some N)
    (hrun : (execOp a.eval o).run P W = .ok (.value (.slice (some ⟨W.heap.size, 0, none⟩) xs.length xs.length)) (W.alloc (.cells inner.toArray e)))
    (hrep : Reps (d.M W w.heap.size (fun _ => False)) d.sz xs inner) (hm : xs.length ≤ 9223372036854775807)
    (h : ∀ A c W', Own w W' (L ++ [.row d e w.heap.size (.slice A xs.length c) xs]) K → Below W.heap.size W W' → wpList P ops Q rest (a.put o.dst (.slice A xs.length c)) W') : wpList P ops Q (o :: rest) a W := by
  refine Kd.R_lit d (w0 := w) w.heap.size e hgd _hd (ok := fun k => W.heap.size ≤ k) hrun hrep (fun _ hk => hk.elim) (Nat.le_refl _) HO.below HO.le hm ?_
  intro v1 w1 hR hb hg hat
  obtain ⟨A, c, rfl⟩ := Kd.R_slice hR
  have hb2 : Below W.heap.size W w1 := ⟨hg.os, hg.tape, hg.output, hg.size, fun k hk => hg.block k hk (by simp)⟩
  exact h A c w1 (HO.add hb2 hR) hb2
/-- A row without elements. -/
theorem Own.newrow {α : Type} (HO : Own w W L K) (d : Kd α) (e : Nat) : Own w W (L ++ [.row d e w.heap.size (.slice none 0 0) []]) K := HO.add (Below.refl _ _) (Kd.R_nil d e W _ _)
/-- Behind a call that gave a row of its own. -/
theorem Own.called {α : Type} {d : Kd α} {e : Nat} {v : Value} {xs : List α} {W' : World} (HO : Own w W L K) (hb : Below W.heap.size W W') (hR : d.R e W' W.heap.size (fun _ => True) v xs) : Own w W' (L ++ [.row d e w.heap.size v xs]) K :=
  HO.add hb (Kd.R_lower (Kd.R_mono (Kd.R_bound hR) (fun k hk => hk.2.1)) HO.le)
end

end Go.Proofs.Ytlgkeaildncojaa.Q
end
section
/- slices.IndexFunc and ContainsFunc at int, []int, Call. Printed by genSl.py. -/
namespace Go.Proofs.Ytlgkeaildncojaa.Q
open Go.RowKit Go.Proofs.YtlgkeaildncojaaW.PrintWords Go.Proofs.YtlgkeaildncojaaW.PrintLast Go.Proofs.YtlgkeaildncojaaW.PrintMore
set_option linter.unusedSimpArgs false
set_option linter.unusedVariables false
/-- The first index of an element that p takes; -1 if there is none. -/
def fidx {α : Type} (p : α → Bool) : List α → Nat → Int
  | [], _ => -1
  | x :: t, i => if p x then i else fidx p t (i + 1)
theorem fidx_pos {α : Type} (p : α → Bool) : ∀ (l : List α) (i : Nat), (0 ≤ fidx p l i) ↔ l.any p = true
  | [], i => by simp [fidx]
  | x :: t, i => by
    have ih := fidx_pos p t (i + 1)
    rw [List.any_cons]
    by_cases h : p x = true
    · rw [show fidx p (x :: t) i = (i : Int) by simp [fidx, h], h]; simp
    · rw [show fidx p (x :: t) i = fidx p t (i + 1) by simp [fidx, h], ih]; simp [h]
theorem fidx_any {α : Type} (p : α → Bool) (l : List α) (i : Nat) : decide (0 ≤ fidx p l i) = l.any p := by
  rw [Bool.eq_iff_iff, decide_eq_true_iff]
  exact fidx_pos p l i
theorem fidx_step {α : Type} (p : α → Bool) (l : List α) (k : Nat) (z : α) (h : k < l.length) : fidx p (l.drop k) k = if p (l.getD k z) then (k : Int) else fidx p (l.drop (k + 1)) (k + 1) := by
  rw [List.drop_eq_getElem_cons h, List.getD_eq_getElem?_getD, List.getElem?_eq_getElem h]
  rfl
theorem getD_in {α : Type} (l : List α) (k : Nat) (z : α) (h : k < l.length) : l.getD k z ∈ l := by
  rw [List.getD_eq_getElem?_getD, List.getElem?_eq_getElem h]
  exact List.getElem_mem h
theorem at_int {w : World} {A : Option Addr} {n : Nat} {xs : List Int} (h : (Kd.int .i64).C w A n xs) (k : Nat) (hk : k < n) : ∃ ad, A = some ad ∧ w.cell? (ad.add k) = some (.int .i64 (xs.getD k 0)) := by
  obtain ⟨ad, c, e, _, hK, hc0⟩ := Kd.C_get h (0 : Int) (k : Int) (by omega) (by omega)
  rw [Int.toNat_natCast] at hK hc0
  have hc : ∀ j u, c[j]? = some u → w.cell? (ad.add (k * 1 + j)) = some u := hc0
  obtain rfl := hK
  exact ⟨ad, e, by have hq := hc 0 _ rfl; rwa [Nat.mul_one, Nat.add_zero] at hq⟩
theorem at_sl {α : Type} {d : Kd α} {e : Nat} {w : World} {A : Option Addr} {n : Nat} {xs : List (List α)} (h : (Kd.slice e d).C w A n xs) (k : Nat) (hk : k < n) : ∃ ad A0 c0, A = some ad ∧ w.cell? (ad.add k) = some (.slice A0 (xs.getD k []).length c0) ∧ (xs.getD k []).length ≤ c0 ∧ d.C w A0 (xs.getD k []).length (xs.getD k []) := by
  obtain ⟨ad, c, e, _, hK, hc0⟩ := Kd.C_get h ([] : List α) (k : Int) (by omega) (by omega)
  rw [Int.toNat_natCast] at hK hc0
  have hc : ∀ j u, c[j]? = some u → w.cell? (ad.add (k * 1 + j)) = some u := hc0
  obtain ⟨A0, c0, rfl, h1, h2⟩ := hK
  exact ⟨ad, A0, c0, e, by have hq := hc 0 _ rfl; rwa [Nat.mul_one, Nat.add_zero] at hq, h1, h2⟩
set_option maxHeartbeats 1000000 in
theorem idxI (p : Int → Bool) (g : FuncId) (fr : Array Value) (eg : ∀ args w, (callFunc g args).run Try.prog w = .ok (.enter g args) w)
    (A : Option Addr) (c : Nat) (l : List Int) (w : World) (hr : Kd.C (Kd.int .i64) w A l.length l)
    (hp : ∀ x ∈ l, ∀ (W : World), Below w.heap.size w W → Calls Try.prog g (#[.int .i64 x] ++ fr) W fun e w' => e = .returned (.bool (p x)) ∧ Below W.heap.size W w') :
    Calls Try.prog 62 #[.slice A l.length c, .func (.func g) #[] fr] w fun e w' => e = .returned (.int .i64 (fidx p l 0)) ∧ Below w.heap.size w w' := by
  have HR := Aside0.mk hr
  have HC := Aside0.mk (Kd.C_max hr)
  have HB := Aside0.mk (Below.refl w.heap.size w)
  clear hr
  go_enter Try.func62, Try.ntmps62
  go_wp2
  go_loopw [8] (fun v8 w' => ∃ k : Nat, v8 = .int .i64 k ∧ Aside0 (k ≤ l.length) ∧ Aside0 (fidx p (l.drop k) k = fidx p l 0) ∧ Aside0 (Below w.heap.size w w')) (fun v8 _ => l.length - (intOf v8).toNat)
  case atStart => exact ⟨0, rfl, ⟨Nat.zero_le _⟩, ⟨rfl⟩, HB⟩
  case round =>
    clear HB
    obtain ⟨k, rfl, HK, HF, HB⟩ := hrel
    by_cases hlt : k < l.length
    · have HS := Aside0.mk (fidx_step p l k 0 hlt)
      have hltz : (k : Int) < (l.length : Int) := by omega
      have HC1 : (k : Int) + 1 ≤ 9223372036854775807 := by have := HC.out; omega
      obtain ⟨ad, hA, x0⟩ := at_int (Kd.C_below HR.out HB.out) k hlt
      subst hA
      have hcall := hp (l.getD k 0) (getD_in l k 0 hlt) wr HB.out
      generalize l.getD k 0 = y at *
      have p1 : (0 ≤ (k : Int)) = True := eq_true (by omega)
      replace hltz := eq_true hltz
      have HL := Aside0.mk hlt
      clear hp hlt
      cases hq : p y with
      | true =>
        rw [hq] at hcall
        have HQ := Aside0.mk hq
        clear hq
        go_wp2
        refine hcall.mono ?_
        rintro e w' ⟨rfl, hb'⟩
        go_wp2
        go_ret
        exact ⟨by rw [← HF.out, HS.out, HQ.out]; rfl, below_step HB.out hb'⟩
      | false =>
        rw [hq] at hcall
        have HQ := Aside0.mk hq
        clear hq
        go_wp2
        refine hcall.mono ?_
        rintro e w' ⟨rfl, hb'⟩
        go_wp2
        go_roundw
        case rel => exact ⟨k + 1, by go_num, HL, ⟨by rw [← HF.out, HS.out, HQ.out]; rfl⟩, ⟨below_step HB.out hb'⟩⟩
        case measure => have := HL.out; simp [intOf]; omega
    · have hltz : ¬ (k : Int) < (l.length : Int) := by omega
      go_wp2
      go_ret
      exact ⟨by rw [← HF.out, List.drop_eq_nil_of_le (by omega)]; rfl, HB.out⟩
theorem conI (p : Int → Bool) (g : FuncId) (fr : Array Value) (eg : ∀ args w, (callFunc g args).run Try.prog w = .ok (.enter g args) w)
    (A : Option Addr) (c : Nat) (l : List Int) (w : World) (hr : Kd.C (Kd.int .i64) w A l.length l)
    (hp : ∀ x ∈ l, ∀ (W : World), Below w.heap.size w W → Calls Try.prog g (#[.int .i64 x] ++ fr) W fun e w' => e = .returned (.bool (p x)) ∧ Below W.heap.size W w') :
    Calls Try.prog 45 #[.slice A l.length c, .func (.func g) #[] fr] w fun e w' => e = .returned (.bool (l.any p)) ∧ Below w.heap.size w w' := by
  have HI := Aside0.mk (idxI p g fr eg A c l w hr hp)
  have HA := Aside0.mk (fidx_any p l 0)
  clear hr hp eg
  go_enter Try.func45, Try.ntmps45
  go_wp2_with (go_at_call 62; (with_reducible refine HI.out.mono ?_); rintro e w' ⟨rfl, hb⟩)
  go_ret
  exact ⟨by rw [HA.out]; rfl, hb⟩
set_option maxHeartbeats 1000000 in
theorem idxL (p : (List Int) → Bool) (g : FuncId) (fr : Array Value) (eg : ∀ args w, (callFunc g args).run Try.prog w = .ok (.enter g args) w)
    (A : Option Addr) (c : Nat) (l : List (List Int)) (w : World) (hr : Kd.C (Kd.slice 3 (Kd.int .i64)) w A l.length l)
    (hp : ∀ x ∈ l, ∀ (A0 : Option Addr) (c0 : Nat) (W : World), Below w.heap.size w W → x.length ≤ c0 → (Kd.int .i64).C W A0 x.length x → Calls Try.prog g (#[.slice A0 x.length c0] ++ fr) W fun e w' => e = .returned (.bool (p x)) ∧ Below W.heap.size W w') :
    Calls Try.prog 63 #[.slice A l.length c, .func (.func g) #[] fr] w fun e w' => e = .returned (.int .i64 (fidx p l 0)) ∧ Below w.heap.size w w' := by
  have HR := Aside0.mk hr
  have HC := Aside0.mk (Kd.C_max hr)
  have HB := Aside0.mk (Below.refl w.heap.size w)
  clear hr
  go_enter Try.func63, Try.ntmps63
  go_wp2
  go_loopw [8] (fun v8 w' => ∃ k : Nat, v8 = .int .i64 k ∧ Aside0 (k ≤ l.length) ∧ Aside0 (fidx p (l.drop k) k = fidx p l 0) ∧ Aside0 (Below w.heap.size w w')) (fun v8 _ => l.length - (intOf v8).toNat)
  case atStart => exact ⟨0, rfl, ⟨Nat.zero_le _⟩, ⟨rfl⟩, HB⟩
  case round =>
    clear HB
    obtain ⟨k, rfl, HK, HF, HB⟩ := hrel
    by_cases hlt : k < l.length
    · have HS := Aside0.mk (fidx_step p l k [] hlt)
      have hltz : (k : Int) < (l.length : Int) := by omega
      have HC1 : (k : Int) + 1 ≤ 9223372036854775807 := by have := HC.out; omega
      obtain ⟨ad, A0, c0, hA, x0, y0, y1⟩ := at_sl (Kd.C_below HR.out HB.out) k hlt
      subst hA
      have hcall := hp (l.getD k []) (getD_in l k [] hlt) A0 c0 wr HB.out y0 y1
      clear y0 y1
      generalize l.getD k [] = y at *
      have p1 : (0 ≤ (k : Int)) = True := eq_true (by omega)
      replace hltz := eq_true hltz
      have HL := Aside0.mk hlt
      clear hp hlt
      cases hq : p y with
      | true =>
        rw [hq] at hcall
        have HQ := Aside0.mk hq
        clear hq
        go_wp2
        refine hcall.mono ?_
        rintro e w' ⟨rfl, hb'⟩
        go_wp2
        go_ret
        exact ⟨by rw [← HF.out, HS.out, HQ.out]; rfl, below_step HB.out hb'⟩
      | false =>
        rw [hq] at hcall
        have HQ := Aside0.mk hq
        clear hq
        go_wp2
        refine hcall.mono ?_
        rintro e w' ⟨rfl, hb'⟩
        go_wp2
        go_roundw
        case rel => exact ⟨k + 1, by go_num, HL, ⟨by rw [← HF.out, HS.out, HQ.out]; rfl⟩, ⟨below_step HB.out hb'⟩⟩
        case measure => have := HL.out; simp [intOf]; omega
    · have hltz : ¬ (k : Int) < (l.length : Int) := by omega
      go_wp2
      go_ret
      exact ⟨by rw [← HF.out, List.drop_eq_nil_of_le (by omega)]; rfl, HB.out⟩
theorem conL (p : (List Int) → Bool) (g : FuncId) (fr : Array Value) (eg : ∀ args w, (callFunc g args).run Try.prog w = .ok (.enter g args) w)
    (A : Option Addr) (c : Nat) (l : List (List Int)) (w : World) (hr : Kd.C (Kd.slice 3 (Kd.int .i64)) w A l.length l)
    (hp : ∀ x ∈ l, ∀ (A0 : Option Addr) (c0 : Nat) (W : World), Below w.heap.size w W → x.length ≤ c0 → (Kd.int .i64).C W A0 x.length x → Calls Try.prog g (#[.slice A0 x.length c0] ++ fr) W fun e w' => e = .returned (.bool (p x)) ∧ Below W.heap.size W w') :
    Calls Try.prog 48 #[.slice A l.length c, .func (.func g) #[] fr] w fun e w' => e = .returned (.bool (l.any p)) ∧ Below w.heap.size w w' := by
  have HI := Aside0.mk (idxL p g fr eg A c l w hr hp)
  have HA := Aside0.mk (fidx_any p l 0)
  clear hr hp eg
  go_enter Try.func48, Try.ntmps48
  go_wp2_with (go_at_call 63; (with_reducible refine HI.out.mono ?_); rintro e w' ⟨rfl, hb⟩)
  go_ret
  exact ⟨by rw [HA.out]; rfl, hb⟩
set_option maxHeartbeats 1000000 in
theorem idxC (p : S60 → Bool) (g : FuncId) (fr : Array Value) (eg : ∀ args w, (callFunc g args).run Try.prog w = .ok (.enter g args) w)
    (A : Option Addr) (c : Nat) (l : List S60) (w : World) (hr : Kd.C k60 w A l.length l)
    (hp : ∀ x ∈ l, ∀ (W : World), Below w.heap.size w W → Calls Try.prog g (#[.agg #[.int .i64 x.f0, .int .i64 x.f1]] ++ fr) W fun e w' => e = .returned (.bool (p x)) ∧ Below W.heap.size W w') :
    Calls Try.prog 66 #[.slice A l.length c, .func (.func g) #[] fr] w fun e w' => e = .returned (.int .i64 (fidx p l 0)) ∧ Below w.heap.size w w' := by
  have HR := Aside0.mk hr
  have HC := Aside0.mk (Kd.C_max hr)
  have HB := Aside0.mk (Below.refl w.heap.size w)
  clear hr
  go_enter Try.func66, Try.ntmps66
  go_wp2
  go_loopw [8] (fun v8 w' => ∃ k : Nat, v8 = .int .i64 k ∧ Aside0 (k ≤ l.length) ∧ Aside0 (fidx p (l.drop k) k = fidx p l 0) ∧ Aside0 (Below w.heap.size w w')) (fun v8 _ => l.length - (intOf v8).toNat)
  case atStart => exact ⟨0, rfl, ⟨Nat.zero_le _⟩, ⟨rfl⟩, HB⟩
  case round =>
    clear HB
    obtain ⟨k, rfl, HK, HF, HB⟩ := hrel
    by_cases hlt : k < l.length
    · have HS := Aside0.mk (fidx_step p l k z60 hlt)
      have hltz : (k : Int) < (l.length : Int) := by omega
      have HC1 : (k : Int) + 1 ≤ 9223372036854775807 := by have := HC.out; omega
      obtain ⟨ad, hA, x0, x1⟩ := at_T60 (Kd.C_below HR.out HB.out) (k : Int) (by omega) (by omega)
      subst hA
      rw [show rd_T60 l (k : Int) = l.getD k z60 from rfl] at x0 x1
      rw [Int.toNat_natCast] at x0 x1
      have hcall := hp (l.getD k z60) (getD_in l k z60 hlt) wr HB.out
      generalize l.getD k z60 = y at *
      have p1 : (0 ≤ (k : Int)) = True := eq_true (by omega)
      replace hltz := eq_true hltz
      have HL := Aside0.mk hlt
      clear hp hlt
      cases hq : p y with
      | true =>
        rw [hq] at hcall
        have HQ := Aside0.mk hq
        clear hq
        go_wp2
        refine hcall.mono ?_
        rintro e w' ⟨rfl, hb'⟩
        go_wp2
        go_ret
        exact ⟨by rw [← HF.out, HS.out, HQ.out]; rfl, below_step HB.out hb'⟩
      | false =>
        rw [hq] at hcall
        have HQ := Aside0.mk hq
        clear hq
        go_wp2
        refine hcall.mono ?_
        rintro e w' ⟨rfl, hb'⟩
        go_wp2
        go_roundw
        case rel => exact ⟨k + 1, by go_num, HL, ⟨by rw [← HF.out, HS.out, HQ.out]; rfl⟩, ⟨below_step HB.out hb'⟩⟩
        case measure => have := HL.out; simp [intOf]; omega
    · have hltz : ¬ (k : Int) < (l.length : Int) := by omega
      go_wp2
      go_ret
      exact ⟨by rw [← HF.out, List.drop_eq_nil_of_le (by omega)]; rfl, HB.out⟩
theorem conC (p : S60 → Bool) (g : FuncId) (fr : Array Value) (eg : ∀ args w, (callFunc g args).run Try.prog w = .ok (.enter g args) w)
    (A : Option Addr) (c : Nat) (l : List S60) (w : World) (hr : Kd.C k60 w A l.length l)
    (hp : ∀ x ∈ l, ∀ (W : World), Below w.heap.size w W → Calls Try.prog g (#[.agg #[.int .i64 x.f0, .int .i64 x.f1]] ++ fr) W fun e w' => e = .returned (.bool (p x)) ∧ Below W.heap.size W w') :
    Calls Try.prog 51 #[.slice A l.length c, .func (.func g) #[] fr] w fun e w' => e = .returned (.bool (l.any p)) ∧ Below w.heap.size w w' := by
  have HI := Aside0.mk (idxC p g fr eg A c l w hr hp)
  have HA := Aside0.mk (fidx_any p l 0)
  clear hr hp eg
  go_enter Try.func51, Try.ntmps51
  go_wp2_with (go_at_call 66; (with_reducible refine HI.out.mono ?_); rintro e w' ⟨rfl, hb⟩)
  go_ret
  exact ⟨by rw [HA.out]; rfl, hb⟩
end Go.Proofs.Ytlgkeaildncojaa.Q
end
section
/- slices.Grow (of nil) and slices.Concat at [][]int and []Item; slices.Clone at []Item. Printed by genCc.py. -/
namespace Go.Proofs.YtlgkeaildncojaaW.PrintWords
open Go.RowKit Go.Shelf
/-- An element as it was told at a world: its own rows are old. -/
def Kd.old {α : Type} (d : Kd α) (w0 : World) : Kd α where
  sz := d.sz
  E := []
  K := fun _ x cs => d.K w0 x cs
  M := fun _ _ _ x cs => d.K w0 x cs
  K_len := fun h => d.K_len h
  K_one := fun h u hu => d.K_one h u hu
  K_below := fun _ h => h
  K_of_M := fun h => h
  M_mono := fun _ h => h
  M_bound := fun h => h
  M_move := fun _ h => h
  M_lower := fun _ h => h
theorem Kd.C_old {α : Type} {d : Kd α} {w0 w : World} {A : Option Addr} {n : Nat} {xs : List α} (h : (Kd.old d w0).C w A n xs) (hb : Below w0.heap.size w0 w) : d.C w A n xs :=
  ReadsRow.imp_ h (Below.refl _ _) (fun _ _ hp => d.K_below hb hp)
end Go.Proofs.YtlgkeaildncojaaW.PrintWords
namespace Go.Proofs.Ytlgkeaildncojaa.Q
open Go.RowKit Go.Shelf Go.Proofs.YtlgkeaildncojaaW.PrintWords Go.Proofs.YtlgkeaildncojaaW.PrintLast Go.Proofs.YtlgkeaildncojaaW.PrintMore
set_option linter.unusedSimpArgs false
set_option linter.unusedVariables false
theorem flat_step {α : Type} (ls : List (List α)) (k : Nat) (h : k < ls.length) : (ls.take (k + 1)).flatten = (ls.take k).flatten ++ ls.getD k [] := by
  rw [List.take_add_one, List.flatten_append, List.getD_eq_getElem?_getD, List.getElem?_eq_getElem h]
  simp
theorem flat_le {α : Type} (ls : List (List α)) (k : Nat) : (ls.take k).flatten.length ≤ ls.flatten.length := by
  have h := congrArg (fun l : List (List α) => l.flatten.length) (List.take_append_drop k ls)
  simp only [List.flatten_append, List.length_append] at h
  omega
theorem emptyRow {α : Type} (d : Kd α) (e : Nat) {w : World} (cap : Nat) (cur : Array Value) (hc : cap ≤ maxLen) (hs : cur.size = cap * d.sz) : d.R e (w.drew.alloc (.cells cur e)) w.heap.size (fun _ => True) (.slice (some ⟨w.heap.size, 0, none⟩) 0 cap) [] := by
  refine ⟨fun _ _ => trivial, [], ⟨by simp, .inr ⟨w.heap.size, cap, cur, rfl, Nat.le_refl _, blk_new w.drew _, Nat.zero_le _, hc, hs, by simp⟩⟩, Reps.none _ _⟩
def growL_ren : Go.Shelf.Ren := ⟨fun | 4 => 71 | n => n, fun | 22 => 25 | 25 => 26 | n => n, fun | n => n⟩
theorem lays_GrowL : Go.Proofs.Lays8.n4 Try.prog growL_ren := {
  mixed := by kernel_rfl
  f4 := ⟨"slices.Grow[[][]int,[]int]", by decide, Try.func71.trans (congrArg some (by kernel_rfl))⟩
  t0 := Try.underlying0
  a0 := Try.isAgg0
  z0 := Try.sizeOf0
  v0 := Try.zeroValue0
  t3 := Try.underlying3
  a3 := Try.isAgg3
  z3 := Try.sizeOf3
  v3 := Try.zeroValue3
  t4 := Try.underlying4
  a4 := Try.isAgg4
  z4 := Try.sizeOf4
  v4 := Try.zeroValue4
  t9 := Try.underlying9
  a9 := Try.isAgg9
  z9 := Try.sizeOf9
  v9 := Try.zeroValue9
  t20 := Try.underlying20
  a20 := Try.isAgg20
  z20 := Try.sizeOf20
  v20 := Try.zeroValue20
  t22 := Try.underlying25
  a22 := Try.isAgg25
  z22 := Try.sizeOf25
  v22 := Try.zeroValue25 }
theorem hinf26 : (Try.prog.info? 26).map (fun i => (i.zero, i.size, i.bytes)) = some (some (.slice none 0 0), 1, 24) := by kernel_rfl
theorem growL_calls {α : Type} (d : Kd α) (hd : d.sz = 1) (n : Nat) (hn : n ≤ 1000000) (w : World) : Calls Try.prog 71 #[.slice none 0 0, .int .i64 n] w fun e w' => ∃ v, e = .returned v ∧ Kd.R d 26 w' w.heap.size (fun _ => True) v [] ∧ Below w.heap.size w w' := by
  by_cases h0 : n = 0
  · subst h0
    refine (Any8.slices_Grow_room lays_GrowL none 0 0 0 w (by omega) (by omega) (by omega) (by omega)).mono ?_
    rintro e w' ⟨rfl, rfl⟩
    exact ⟨_, rfl, Kd.R_nil _ _ _ _ _, Below.refl _ _⟩
  · obtain ⟨i0, hi0, hz0, hs0, hb0⟩ : ∃ i, Try.prog.info? 26 = some i ∧ i.zero = some (Value.slice none 0 0) ∧ i.size = 1 ∧ i.bytes = 24 := by
      have h := hinf26
      cases hq : Try.prog.info? 26 with
      | none => rw [hq] at h; cases h
      | some i =>
        rw [hq] at h
        simp only [Option.map_some, Option.some.injEq, Prod.mk.injEq] at h
        exact ⟨i, rfl, h.1, h.2.1, h.2.2⟩
    refine (Any8.slices_Grow_grow lays_GrowL i0 (Value.slice none 0 0) hi0 hz0 (by omega) none 0 0 n [] w (by omega) (by omega) (by rw [hb0]; omega) (by omega) (by simp) (fun _ => rfl) (fun a h => by cases h)).mono ?_
    rintro e w' ⟨rfl, rfl⟩
    refine ⟨_, rfl, emptyRow d 26 _ _ ?_ ?_, ?_⟩
    · exact grownCap_le_maxLen _ _ _ _ (by unfold maxLen; omega)
    · have hg := grownCap_ge w (0 + n) 0 26
      have hg2 : 0 + n ≤ grownCap w (0 + n) 0 (growL_ren.t 25) := hg
      have hz2 : ((Value.slice none 0 0)).cells.size = 1 := rfl
      rw [Array.size_append, Array.size_append, size_zeroCells, size_zeroCells, hz2, hd]
      simp only [List.size_toArray, List.length_nil]
      omega
    · exact below_alloc (below_drew (Below.refl _ _)) _
set_option maxRecDepth 100000 in
set_option maxHeartbeats 4000000 in
theorem concatL_calls (A : Option Addr) (c : Nat) (ls : List (List (List Int))) (w : World) (hr : Kd.C (Kd.slice 26 (Kd.slice 3 (Kd.int .i64))) w A ls.length ls) (hl : ls.length ≤ 1000) (hf : ls.flatten.length ≤ 1000000) :
    Calls Try.prog 64 #[.slice A ls.length c] w fun e w' => ∃ v, e = .returned v ∧ Kd.R (Kd.old (Kd.slice 3 (Kd.int .i64)) w) 26 w' w.heap.size (fun _ => True) v ls.flatten ∧ Below w.heap.size w w' := by
  have HR := Aside0.mk hr
  have HL := Aside0.mk hl
  have HF := Aside0.mk hf
  have HO := Own.start w
  clear hr hl hf
  go_enter Try.func64, Try.ntmps64
  go_wp2
  go_loopw [3, 11] (fun v3 v11 w' => ∃ (k s : Nat), v11 = .int .i64 k ∧ v3 = .int .i64 s ∧ Aside0 (k ≤ ls.length) ∧ Aside0 ((ls.take k).flatten.length = s) ∧ Aside0 (Own w w' [])) (fun _ v11 _ => ls.length - (intOf v11).toNat)
  case atStart => exact ⟨0, 0, rfl, rfl, ⟨Nat.zero_le _⟩, ⟨rfl⟩, ⟨HO⟩⟩
  case round =>
    clear HO
    obtain ⟨k, s, rfl, rfl, HK, HP, HOO⟩ := hrel
    have HO := HOO.out
    clear HOO
    by_cases hlt : k < ls.length
    case pos =>
      obtain ⟨ad, A0, c0, hA, x0, y0, y1⟩ := at_sl (HO.old HR.out) k hlt
      subst hA
      clear y0 y1
      have hfs := congrArg List.length (flat_step ls k hlt)
      rw [List.length_append] at hfs
      have hfl := flat_le ls (k + 1)
      rw [HP.out] at hfs
      generalize hm : (ls.getD k []).length = m at x0 hfs
      have HFS := Aside0.mk hfs
      have b0 : (s : Int) + (m : Int) ≤ 1000000 := by have := HF.out; omega
      have hkb : (k : Int) + 1 ≤ 1001 := by have := HL.out; omega
      have q1 : ((k : Int) < (ls.length : Int)) = True := eq_true (by omega)
      have q0 : (0 ≤ (k : Int)) = True := eq_true (by omega)
      have q2 : ((s : Int) + (m : Int) < 0) = False := eq_false (by omega)
      have HKL := Aside0.mk hlt
      clear hlt hfs hfl hm
      go_wp2
      go_roundw
      case rel => exact ⟨k + 1, s + m, by go_num, by go_num, ⟨HKL.out⟩, ⟨HFS.out⟩, ⟨HO⟩⟩
      case measure => have := HKL.out; simp [intOf]; omega
    have hk : k = ls.length := by have := HK.out; omega
    have q1 : ¬ ((k : Int) < (ls.length : Int)) := by omega
    have hs1 : s ≤ 1000000 := by have := HP.out; have h2 := flat_le ls k; have := HF.out; omega
    have hgr := fun W => growL_calls (Kd.old (Kd.slice 3 (Kd.int .i64)) w) rfl s hs1 W
    clear hk hlt hs1
    go_wp2_with (first
      | (go_at_call 71; (with_reducible refine (hgr _).mono ?_); rintro e W1 ⟨v1, rfl, hR1, hb1⟩; have HO1 := HO.called hb1 hR1; clear HO hR1 hb1; obtain ⟨A1, c1, rfl, -, -⟩ := HO1.row_at 0 rfl))
    clear hgr q1 HK HP
    go_loopw [6, 27] (fun v6 v27 w' => ∃ (k : Nat) (pre : List (List Int)) (A6 : Option Addr) (c6 : Nat), v27 = .int .i64 k ∧ v6 = .slice A6 pre.length c6 ∧ Aside0 (k ≤ ls.length) ∧ Aside0 ((ls.take k).flatten = pre) ∧ Aside0 (Own w w' [.row (Kd.old (Kd.slice 3 (Kd.int .i64)) w) 26 w.heap.size (.slice A6 pre.length c6) pre])) (fun _ v27 _ => ls.length - (intOf v27).toNat)
    case atStart => exact ⟨0, [], A1, c1, rfl, rfl, ⟨Nat.zero_le _⟩, ⟨rfl⟩, ⟨HO1⟩⟩
    case round =>
      clear HO1
      obtain ⟨k, pre, A6, c6, rfl, rfl, HK, HP, HOO⟩ := hrel
      have HO := HOO.out
      clear HOO
      by_cases hlt : k < ls.length
      case neg =>
        have hk : k = ls.length := by have := HK.out; omega
        have q1 : ¬ ((k : Int) < (ls.length : Int)) := by omega
        have HFU : Aside0 (pre = ls.flatten) := ⟨by rw [← HP.out, hk, List.take_length]⟩
        clear hk hlt
        go_wp2
        go_ret
        refine ⟨_, rfl, ?_, HO.below⟩
        rw [← HFU.out]
        exact HO.row_R 0 rfl
      obtain ⟨ad, A0, c0, hA, x00, y0, y1⟩ := at_sl HR.out k hlt
      have x0 := pw_cell_below HO.below x00
      subst hA
      have HY := Aside0.mk y1
      have hfs := flat_step ls k hlt
      rw [HP.out] at hfs
      have hfl := flat_le ls (k + 1)
      rw [hfs, List.length_append] at hfl
      have HFL := Aside0.mk hfl
      clear y0 y1 x00 hfl
      generalize ls.getD k [] = ys at x0 HY hfs HFL
      have HFS := Aside0.mk hfs
      have hkb : (k : Int) + 1 ≤ 1001 := by have := HL.out; omega
      have q1 : ((k : Int) < (ls.length : Int)) = True := eq_true (by omega)
      have q0 : (0 ≤ (k : Int)) = True := eq_true (by omega)
      have HKL := Aside0.mk hlt
      clear hlt hfs
      go_wp2_with (first
        | ((with_reducible refine gate_builtin (b := .append) (xs := #[.tmp 31, .tmp 32]) rfl ?_); at_builtin; refine ev_rows 0 HO rfl rfl (.tmp 31) (.tmp 32) 25 (.slice none 0 0) 24 rfl Try.underlying25 hinf26 rfl (Nat.succ_pos _) (by decide) ys A0 c0 rfl rfl (ReadsRow.imp_ HY.out HO.below (fun _ _ h => h)) (fun _ _ h => h) ?aL ?_; (case aL => have := HFL.out; have := HF.out; omega); intro A9 c9 W9 HO9; clear HO))
      go_roundw
      case rel => exact ⟨k + 1, pre ++ ys, A9, c9, by go_num, by first | rfl | rw [List.length_append], ⟨HKL.out⟩, ⟨HFS.out⟩, ⟨HO9⟩⟩
      case measure => have := HKL.out; simp [intOf]; omega
def growT_ren : Go.Shelf.Ren := ⟨fun | 4 => 72 | n => n, fun | 22 => 33 | 25 => 55 | n => n, fun | n => n⟩
theorem lays_GrowT : Go.Proofs.Lays8.n4 Try.prog growT_ren := {
  mixed := by kernel_rfl
  f4 := ⟨"slices.Grow[[]abugida/api.Item,abugida/api.Item]", by decide, Try.func72.trans (congrArg some (by kernel_rfl))⟩
  t0 := Try.underlying0
  a0 := Try.isAgg0
  z0 := Try.sizeOf0
  v0 := Try.zeroValue0
  t3 := Try.underlying3
  a3 := Try.isAgg3
  z3 := Try.sizeOf3
  v3 := Try.zeroValue3
  t4 := Try.underlying4
  a4 := Try.isAgg4
  z4 := Try.sizeOf4
  v4 := Try.zeroValue4
  t9 := Try.underlying9
  a9 := Try.isAgg9
  z9 := Try.sizeOf9
  v9 := Try.zeroValue9
  t20 := Try.underlying20
  a20 := Try.isAgg20
  z20 := Try.sizeOf20
  v20 := Try.zeroValue20
  t22 := Try.underlying33
  a22 := Try.isAgg33
  z22 := Try.sizeOf33
  v22 := Try.zeroValue33 }
theorem hinf55 : (Try.prog.info? 55).map (fun i => (i.zero, i.size, i.bytes)) = some (some (.agg #[.int .i64 0, .int .i64 0]), 2, 16) := by kernel_rfl
theorem growT_calls {α : Type} (d : Kd α) (hd : d.sz = 2) (n : Nat) (hn : n ≤ 1000000) (w : World) : Calls Try.prog 72 #[.slice none 0 0, .int .i64 n] w fun e w' => ∃ v, e = .returned v ∧ Kd.R d 55 w' w.heap.size (fun _ => True) v [] ∧ Below w.heap.size w w' := by
  by_cases h0 : n = 0
  · subst h0
    refine (Any8.slices_Grow_room lays_GrowT none 0 0 0 w (by omega) (by omega) (by omega) (by omega)).mono ?_
    rintro e w' ⟨rfl, rfl⟩
    exact ⟨_, rfl, Kd.R_nil _ _ _ _ _, Below.refl _ _⟩
  · obtain ⟨i0, hi0, hz0, hs0, hb0⟩ : ∃ i, Try.prog.info? 55 = some i ∧ i.zero = some (Value.agg #[.int .i64 0, .int .i64 0]) ∧ i.size = 2 ∧ i.bytes = 16 := by
      have h := hinf55
      cases hq : Try.prog.info? 55 with
      | none => rw [hq] at h; cases h
      | some i =>
        rw [hq] at h
        simp only [Option.map_some, Option.some.injEq, Prod.mk.injEq] at h
        exact ⟨i, rfl, h.1, h.2.1, h.2.2⟩
    refine (Any8.slices_Grow_grow lays_GrowT i0 (Value.agg #[.int .i64 0, .int .i64 0]) hi0 hz0 (by omega) none 0 0 n [] w (by omega) (by omega) (by rw [hb0]; omega) (by omega) (by simp) (fun _ => rfl) (fun a h => by cases h)).mono ?_
    rintro e w' ⟨rfl, rfl⟩
    refine ⟨_, rfl, emptyRow d 55 _ _ ?_ ?_, ?_⟩
    · exact grownCap_le_maxLen _ _ _ _ (by unfold maxLen; omega)
    · have hg := grownCap_ge w (0 + n) 0 55
      have hg2 : 0 + n ≤ grownCap w (0 + n) 0 (growT_ren.t 25) := hg
      have hz2 : ((Value.agg #[.int .i64 0, .int .i64 0])).cells.size = 2 := rfl
      rw [Array.size_append, Array.size_append, size_zeroCells, size_zeroCells, hz2, hd]
      simp only [List.size_toArray, List.length_nil]
      omega
    · exact below_alloc (below_drew (Below.refl _ _)) _
set_option maxRecDepth 100000 in
set_option maxHeartbeats 4000000 in
theorem concatT_calls (A : Option Addr) (c : Nat) (ls : List (List S55)) (w : World) (hr : Kd.C (Kd.slice 55 k55) w A ls.length ls) (hl : ls.length ≤ 1000) (hf : ls.flatten.length ≤ 1000000) :
    Calls Try.prog 68 #[.slice A ls.length c] w fun e w' => ∃ v, e = .returned v ∧ Kd.R k55 55 w' w.heap.size (fun _ => True) v ls.flatten ∧ Below w.heap.size w w' := by
  have HR := Aside0.mk hr
  have HL := Aside0.mk hl
  have HF := Aside0.mk hf
  have HO := Own.start w
  clear hr hl hf
  go_enter Try.func68, Try.ntmps68
  go_wp2
  go_loopw [3, 11] (fun v3 v11 w' => ∃ (k s : Nat), v11 = .int .i64 k ∧ v3 = .int .i64 s ∧ Aside0 (k ≤ ls.length) ∧ Aside0 ((ls.take k).flatten.length = s) ∧ Aside0 (Own w w' [])) (fun _ v11 _ => ls.length - (intOf v11).toNat)
  case atStart => exact ⟨0, 0, rfl, rfl, ⟨Nat.zero_le _⟩, ⟨rfl⟩, ⟨HO⟩⟩
  case round =>
    clear HO
    obtain ⟨k, s, rfl, rfl, HK, HP, HOO⟩ := hrel
    have HO := HOO.out
    clear HOO
    by_cases hlt : k < ls.length
    case pos =>
      obtain ⟨ad, A0, c0, hA, x0, y0, y1⟩ := at_sl (HO.old HR.out) k hlt
      subst hA
      clear y0 y1
      have hfs := congrArg List.length (flat_step ls k hlt)
      rw [List.length_append] at hfs
      have hfl := flat_le ls (k + 1)
      rw [HP.out] at hfs
      generalize hm : (ls.getD k []).length = m at x0 hfs
      have HFS := Aside0.mk hfs
      have b0 : (s : Int) + (m : Int) ≤ 1000000 := by have := HF.out; omega
      have hkb : (k : Int) + 1 ≤ 1001 := by have := HL.out; omega
      have q1 : ((k : Int) < (ls.length : Int)) = True := eq_true (by omega)
      have q0 : (0 ≤ (k : Int)) = True := eq_true (by omega)
      have q2 : ((s : Int) + (m : Int) < 0) = False := eq_false (by omega)
      have HKL := Aside0.mk hlt
      clear hlt hfs hfl hm
      go_wp2
      go_roundw
      case rel => exact ⟨k + 1, s + m, by go_num, by go_num, ⟨HKL.out⟩, ⟨HFS.out⟩, ⟨HO⟩⟩
      case measure => have := HKL.out; simp [intOf]; omega
    have hk : k = ls.length := by have := HK.out; omega
    have q1 : ¬ ((k : Int) < (ls.length : Int)) := by omega
    have hs1 : s ≤ 1000000 := by have := HP.out; have h2 := flat_le ls k; have := HF.out; omega
    have hgr := fun W => growT_calls k55 rfl s hs1 W
    clear hk hlt hs1
    go_wp2_with (first
      | (go_at_call 72; (with_reducible refine (hgr _).mono ?_); rintro e W1 ⟨v1, rfl, hR1, hb1⟩; have HO1 := HO.called hb1 hR1; clear HO hR1 hb1; obtain ⟨A1, c1, rfl, -, -⟩ := HO1.row_at 0 rfl))
    clear hgr q1 HK HP
    go_loopw [6, 27] (fun v6 v27 w' => ∃ (k : Nat) (pre : List S55) (A6 : Option Addr) (c6 : Nat), v27 = .int .i64 k ∧ v6 = .slice A6 pre.length c6 ∧ Aside0 (k ≤ ls.length) ∧ Aside0 ((ls.take k).flatten = pre) ∧ Aside0 (Own w w' [.row k55 55 w.heap.size (.slice A6 pre.length c6) pre])) (fun _ v27 _ => ls.length - (intOf v27).toNat)
    case atStart => exact ⟨0, [], A1, c1, rfl, rfl, ⟨Nat.zero_le _⟩, ⟨rfl⟩, ⟨HO1⟩⟩
    case round =>
      clear HO1
      obtain ⟨k, pre, A6, c6, rfl, rfl, HK, HP, HOO⟩ := hrel
      have HO := HOO.out
      clear HOO
      by_cases hlt : k < ls.length
      case neg =>
        have hk : k = ls.length := by have := HK.out; omega
        have q1 : ¬ ((k : Int) < (ls.length : Int)) := by omega
        have HFU : Aside0 (pre = ls.flatten) := ⟨by rw [← HP.out, hk, List.take_length]⟩
        clear hk hlt
        go_wp2
        go_ret
        refine ⟨_, rfl, ?_, HO.below⟩
        rw [← HFU.out]
        exact HO.row_R 0 rfl
      obtain ⟨ad, A0, c0, hA, x00, y0, y1⟩ := at_sl HR.out k hlt
      have x0 := pw_cell_below HO.below x00
      subst hA
      have HY := Aside0.mk y1
      have hfs := flat_step ls k hlt
      rw [HP.out] at hfs
      have hfl := flat_le ls (k + 1)
      rw [hfs, List.length_append] at hfl
      have HFL := Aside0.mk hfl
      clear y0 y1 x00 hfl
      generalize ls.getD k [] = ys at x0 HY hfs HFL
      have HFS := Aside0.mk hfs
      have hkb : (k : Int) + 1 ≤ 1001 := by have := HL.out; omega
      have q1 : ((k : Int) < (ls.length : Int)) = True := eq_true (by omega)
      have q0 : (0 ≤ (k : Int)) = True := eq_true (by omega)
      have HKL := Aside0.mk hlt
      clear hlt hfs
      go_wp2_with (first
        | ((with_reducible refine gate_builtin (b := .append) (xs := #[.tmp 31, .tmp 32]) rfl ?_); at_builtin; refine ev_rows 0 HO rfl rfl (.tmp 31) (.tmp 32) 33 (.agg #[.int .i64 0, .int .i64 0]) 16 rfl Try.underlying33 hinf55 rfl (Nat.succ_pos _) (by decide) ys A0 c0 rfl rfl (Kd.C_below HY.out HO.below) (fun _ _ h => h) ?aL ?_; (case aL => have := HFL.out; have := HF.out; omega); intro A9 c9 W9 HO9; clear HO))
      go_roundw
      case rel => exact ⟨k + 1, pre ++ ys, A9, c9, by go_num, by first | rfl | rw [List.length_append], ⟨HKL.out⟩, ⟨HFS.out⟩, ⟨HO9⟩⟩
      case measure => have := HKL.out; simp [intOf]; omega
end Go.Proofs.Ytlgkeaildncojaa.Q
end

/- Things of one's own in a walk by hand: what lies behind a world's elder blocks, told as a list; every event turns one of them. Template: Ytlgkeaildncojaa is the seat's Name. -/
import Derived.Test.YtlgkeaildncojaaQx0
import Derived.Deep.MidRow
import Derived.RangeFuncNested
import Derived.Deep.Upon
set_option linter.unusedVariables false
set_option linter.unusedSimpArgs false
namespace Go.Proofs.Ytlgkeaildncojaa.Q
open Go.RowKit Go.Proofs.YtlgkeaildncojaaW.PrintWords Go.Proofs.YtlgkeaildncojaaW.PrintLast Go.Proofs.YtlgkeaildncojaaW.PrintMore

/-- A block of cells. -/
def Solid (W : World) (k : Nat) : Prop := ∃ o, W.heap[k]? = some o ∧ o.isCells = true
theorem solid_cells {W : World} {k : Nat} {cs : Array Value} {t : TypeId} {fz : Nat × Nat} (h : W.heap[k]? = some (.cells cs t fz)) : Solid W k := ⟨_, h, rfl⟩
/-- A thing of one's own: what it says of a world, its blocks (all of cells) being among 'ok'. -/
structure Res where
  P : World → (Nat → Prop) → Prop
  move : ∀ {W W' : World} {ok ok' : Nat → Prop}, P W ok → (∀ k, ok k → k < W.heap.size → Solid W k → W'.heap[k]? = W.heap[k]? ∧ ok' k) → P W' ok'

def Res.emp : Res := ⟨fun _ _ => True, fun _ _ => trivial⟩
/-- A variable in memory. -/
def Res.box (g t : Nat) (cs : Array Value) : Res := ⟨fun W ok => ok g ∧ W.heap[g]? = some (.cells cs t (0, 0)), fun h hm =>
  have h1 := hm g h.1 (blk_lt h.2) (solid_cells h.2); ⟨h1.2, h1.1.trans h.2⟩⟩
/-- A row, with all that its elements lead to. -/
def Res.row {α : Type} (d : Kd α) (e B : Nat) (v : Value) (xs : List α) : Res := ⟨fun W ok => d.R e W B ok v xs, fun {W W' ok ok'} h hm => by
  have key : ∀ k, ok k ∧ B ≤ k ∧ k < W.heap.size ∧ (∃ q, q ∈ e :: d.E ∧ ∃ cells, W.heap[k]? = some (.cells cells q (0, 0))) → W'.heap[k]? = W.heap[k]? ∧ ok' k := fun k hk => by
    obtain ⟨h1, _, h2, q, _, cells, hc⟩ := hk
    exact hm k h1 h2 (solid_cells hc)
  exact Kd.R_mono (Kd.R_move (Kd.R_bound h) (fun k hk => (key k hk).1)) (fun k hk => (key k hk).2)⟩
/-- A value's cells, with all that they lead to. -/
def Res.val {α : Type} (d : Kd α) (B : Nat) (x : α) (cs : List Value) : Res := ⟨fun W ok => d.M W B ok x cs, fun {W W' ok ok'} h hm => by
  have key : ∀ k, ok k ∧ B ≤ k ∧ k < W.heap.size ∧ (∃ q, q ∈ d.E ∧ ∃ cells, W.heap[k]? = some (.cells cells q (0, 0))) → W'.heap[k]? = W.heap[k]? ∧ ok' k := fun k hk => by
    obtain ⟨h1, _, h2, q, _, cells, hc⟩ := hk
    exact hm k h1 h2 (solid_cells hc)
  exact d.M_mono (fun k hk => (key k hk).2) (d.M_move (fun k hk => (key k hk).1) (d.M_bound h))⟩

/-- What is one's own in W since w: the things of L, in blocks apart; what is no cells and in K, is there. -/
structure Own (w W : World) (L : List Res) (K : Nat → Obj → Prop := fun _ _ => False) : Prop where
  below : Below w.heap.size w W
  keeps : ∀ k o, K k o → W.heap[k]? = some o ∧ o.isCells = false
  slots : ∃ F : Nat → Nat, ∀ (i : Nat) (r : Res), L[i]? = some r → r.P W (fun k => w.heap.size ≤ k ∧ F k = i)

theorem Own.start (w : World) : Own w w [] := ⟨Below.refl _ _, fun _ _ h => h.elim, fun _ => 0, fun i r h => by simp at h⟩
theorem Own.le {w W : World} {L : List Res} {K : Nat → Obj → Prop} (h : Own w W L K) : w.heap.size ≤ W.heap.size := h.below.size

/-- What is elder, and every thing: as it was, where only new blocks were laid. -/
theorem Own.grow {w W W' : World} {L : List Res} {K : Nat → Obj → Prop} (h : Own w W L K) (hb : Below W.heap.size W W') : Own w W' L K := by
  obtain ⟨h1, hk0, F, h2⟩ := h
  exact ⟨below_step h1 hb, fun k o hk => ⟨(hb.block k (blk_lt (hk0 k o hk).1)).trans (hk0 k o hk).1, (hk0 k o hk).2⟩, F, fun i r hi => r.move (h2 i r hi) (fun k hk hl _ => ⟨hb.block k hl, hk⟩)⟩
theorem Own.alloc {w W : World} {L : List Res} {K : Nat → Obj → Prop} (h : Own w W L K) (o : Obj) : Own w (W.alloc o) L K := h.grow (below_alloc (Below.refl _ _) o)
theorem Own.drew {w W : World} {L : List Res} {K : Nat → Obj → Prop} (h : Own w W L K) : Own w W.drew L K := h.grow (below_drew (Below.refl _ _))
theorem Own.drewN {w W : World} {L : List Res} {K : Nat → Obj → Prop} (h : Own w W L K) (n : Nat) : Own w (W.drewN n) L K := h.grow (pw_below_drewN (Below.refl _ _) n)
theorem not_solid {W : World} {k : Nat} {o : Obj} (h : W.heap[k]? = some o) (ho : o.isCells = false) : ¬ Solid W k := by
  rintro ⟨o', h2, h3⟩
  rw [h] at h2
  cases h2
  rw [ho] at h3
  cases h3

/-- The great law: some things turn ('S': their colours); the others are as they were. -/
theorem Own.turn0 {w W W' : World} {L' : List Res} {K : Nat → Obj → Prop} (F F' : Nat → Nat) (h1 : Below w.heap.size w W) (hk0 : ∀ k o, K k o → W.heap[k]? = some o ∧ o.isCells = false)
    (hos : W'.os = W.os) (htp : W'.tape = W.tape) (hou : W'.output = W.output) (hsz : W.heap.size ≤ W'.heap.size) (S : Nat → Prop)
    (hsame : ∀ k, k < W.heap.size → ¬ (w.heap.size ≤ k ∧ S (F k) ∧ Solid W k) → W'.heap[k]? = W.heap[k]?)
    (hL : ∀ (i : Nat) (r : Res), L'[i]? = some r → r.P W' (fun k => w.heap.size ≤ k ∧ F' k = i)) : Own w W' L' K := by
  have hle := h1.size
  refine ⟨⟨hos.trans h1.os, htp.trans h1.tape, hou.trans h1.output, by omega, fun k hk => (hsame k (by omega) (fun h => by omega)).trans (h1.block k hk)⟩, fun k o hk => ?_, F', hL⟩
  obtain ⟨h2, h3⟩ := hk0 k o hk
  exact ⟨(hsame k (blk_lt h2) (fun h => not_solid h2 h3 h.2.2)).trans h2, h3⟩
/-- One thing turns. -/
theorem Own.turn {w W W' : World} {L : List Res} {K : Nat → Obj → Prop} {r r' : Res} (h : Own w W L K) (i : Nat) (hi : L[i]? = some r) (hos : W'.os = W.os) (htp : W'.tape = W.tape) (hou : W'.output = W.output) (hsz : W.heap.size ≤ W'.heap.size)
    (step : ∀ ok : Nat → Prop, (∀ k, W.heap.size ≤ k → ok k) → r.P W ok → r'.P W' ok ∧ ∀ k, k < W.heap.size → ¬ (ok k ∧ Solid W k) → W'.heap[k]? = W.heap[k]?) : Own w W' (L.set i r') K := by
  obtain ⟨h1, hk0, F, h2⟩ := h
  have hle := h1.size
  obtain ⟨hP, hsame⟩ := step (fun k => w.heap.size ≤ k ∧ (k < W.heap.size → F k = i)) (fun k hk => ⟨by omega, fun hl => by omega⟩)
    (r.move (h2 i r hi) (fun k hk hl _ => ⟨rfl, hk.1, fun _ => hk.2⟩))
  refine Own.turn0 F (fun k => if k < W.heap.size then F k else i) h1 hk0 hos htp hou hsz (fun q => q = i) (fun k hk hn => hsame k hk (fun h3 => hn ⟨h3.1.1, h3.1.2 hk, h3.2⟩)) (fun j q hj => ?_)
  rw [List.getElem?_set] at hj
  have hil : i < L.length := (List.getElem?_eq_some_iff.mp hi).1
  by_cases e : i = j
  · subst e
    rw [if_pos rfl, if_pos hil] at hj
    injection hj with hj
    subst hj
    refine r'.move hP (fun k hk hl _ => ⟨rfl, hk.1, ?_⟩)
    split
    · rename_i hlt; exact hk.2 hlt
    · rfl
  · rw [if_neg e] at hj
    refine q.move (h2 j q hj) (fun k hk hl _ => ⟨hsame k hl (fun h3 => e ((h3.1.2 hl).symm.trans hk.2)), hk.1, ?_⟩)
    rw [if_pos hl]
    exact hk.2
/-- A thing told in other words. -/
theorem Own.say {w W : World} {L : List Res} {K : Nat → Obj → Prop} {r r' : Res} (h : Own w W L K) (i : Nat) (hi : L[i]? = some r) (step : ∀ ok : Nat → Prop, r.P W ok → r'.P W ok) : Own w W (L.set i r') K :=
  h.turn i hi rfl rfl rfl (Nat.le_refl _) (fun ok _ hp => ⟨step ok hp, fun _ _ _ => rfl⟩)
theorem Own.drop {w W : World} {L : List Res} {K : Nat → Obj → Prop} {r : Res} (h : Own w W L K) (i : Nat) (hi : L[i]? = some r) : Own w W (L.set i .emp) K := h.say i hi (fun _ _ => trivial)
theorem Own.take {w W : World} {L : List Res} {K : Nat → Obj → Prop} (M : List Res) (h : Own w W (L ++ M) K) : Own w W L K := by
  obtain ⟨h1, hk0, F, h2⟩ := h
  exact ⟨h1, hk0, F, fun i r hi => h2 i r (by rw [List.getElem?_append_left (List.getElem?_eq_some_iff.mp hi).1]; exact hi)⟩
theorem Own.upto {w W : World} {L : List Res} {K : Nat → Obj → Prop} (h : Own w W L K) (n : Nat) : Own w W (L.take n) K := by
  obtain ⟨h1, hk0, F, h2⟩ := h
  exact ⟨h1, hk0, F, fun i r hi => h2 i r (by rw [List.getElem?_take] at hi; split at hi; exact hi; cases hi)⟩
/-- Things in another order; some left out. 'p i': where thing i of the new list stood. -/
theorem Own.pick {w W : World} {L L' : List Res} {K : Nat → Obj → Prop} (h : Own w W L K) (p : List Nat) (hp : ∀ (i : Nat) (r : Res), L'[i]? = some r → ∃ j, p[i]? = some j ∧ L[j]? = some r) (hn : p.Nodup) : Own w W L' K := by
  obtain ⟨h1, hk0, F, h2⟩ := h
  refine ⟨h1, hk0, fun k => p.idxOf (F k), fun i r hi => ?_⟩
  obtain ⟨j, hj, hr⟩ := hp i r hi
  refine r.move (h2 j r hr) (fun k hk hl _ => ⟨rfl, hk.1, ?_⟩)
  dsimp only
  rw [hk.2]
  obtain ⟨hlt, he⟩ := List.getElem?_eq_some_iff.mp hj
  rw [← he]
  exact hn.idxOf_getElem i hlt
/-- A new thing, in new blocks. -/
theorem Own.add {w W W' : World} {L : List Res} {K : Nat → Obj → Prop} {r : Res} (h : Own w W L K) (hb : Below W.heap.size W W') (hr : r.P W' (fun k => W.heap.size ≤ k)) : Own w W' (L ++ [r]) K := by
  obtain ⟨h1, hk0, F, h2⟩ := h
  have hle := h1.size
  refine ⟨below_step h1 hb, fun k o hk => ⟨(hb.block k (blk_lt (hk0 k o hk).1)).trans (hk0 k o hk).1, (hk0 k o hk).2⟩, fun k => if k < W.heap.size then (if F k < L.length then F k else F k + 1) else L.length, fun i q hi => ?_⟩
  by_cases hil : i < L.length
  · rw [List.getElem?_append_left hil] at hi
    refine q.move (h2 i q hi) (fun k hk hl _ => ⟨hb.block k hl, hk.1, ?_⟩)
    dsimp only
    rw [if_pos hl, hk.2, if_pos hil]
  · have hii : i = L.length := by
      have := (List.getElem?_eq_some_iff.mp hi).1
      rw [List.length_append, List.length_singleton] at this
      omega
    subst hii
    rw [List.getElem?_append_right (Nat.le_refl _), Nat.sub_self] at hi
    injection hi with hi
    subst hi
    exact r.move hr (fun k hk hl _ => ⟨rfl, by omega, if_neg (by omega)⟩)
/-- Two things become one (at place i); place j is left empty. -/
theorem Own.join {w W : World} {L : List Res} {K : Nat → Obj → Prop} {r s t : Res} (h : Own w W L K) (i j : Nat) (hij : i ≠ j) (hi : L[i]? = some r) (hj : L[j]? = some s) (hm : ∀ ok ok1 ok2 : Nat → Prop, (∀ k, ok1 k → ok k) → (∀ k, ok2 k → ok k) → (∀ k, ok1 k → ¬ ok2 k) → r.P W ok1 → s.P W ok2 → t.P W ok) : Own w W ((L.set j .emp).set i t) K := by
  obtain ⟨h1, hk0, F, h2⟩ := h
  refine ⟨h1, hk0, fun k => if F k = j then i else F k, fun q x hq => ?_⟩
  have hil : i < L.length := (List.getElem?_eq_some_iff.mp hi).1
  have hjl : j < L.length := (List.getElem?_eq_some_iff.mp hj).1
  rw [List.getElem?_set] at hq
  by_cases e : i = q
  · subst e
    rw [if_pos rfl, if_pos (by simpa using hil)] at hq
    injection hq with hq
    subst hq
    refine hm _ _ _ (fun k hk => ⟨hk.1, ?_⟩) (fun k hk => ⟨hk.1, ?_⟩) (fun k h3 h4 => hij (h3.2.symm.trans h4.2)) (h2 i r hi) (h2 j s hj)
    · dsimp only; rw [if_neg (by rw [hk.2]; exact hij), hk.2]
    · dsimp only; rw [if_pos hk.2]
  · rw [if_neg e, List.getElem?_set] at hq
    by_cases e2 : j = q
    · subst e2
      rw [if_pos rfl, if_pos hjl] at hq
      injection hq with hq
      subst hq
      trivial
    · rw [if_neg e2] at hq
      exact x.move (h2 q x hq) (fun k hk hl _ => ⟨rfl, hk.1, by dsimp only; rw [if_neg (by rw [hk.2]; exact fun h => e2 h.symm)]; exact hk.2⟩)
/-- What is no cells: other words for what is kept. -/
theorem Own.keep {w W : World} {L : List Res} {K K' : Nat → Obj → Prop} (h : Own w W L K) (hk : ∀ k o, K' k o → W.heap[k]? = some o ∧ o.isCells = false) : Own w W L K' := ⟨h.below, hk, h.slots⟩
/-- Another block that is no cells has turned. -/
theorem Own.other {w W W' : World} {L : List Res} {K : Nat → Obj → Prop} {row : Option Nat} (h : Own w W L K) (hg : W.grownBy W' row) (hr : ∀ r, row = some r → w.heap.size ≤ r ∧ (∀ o, ¬ K r o) ∧ ∃ o : Obj, W.heap[r]? = some o ∧ o.isCells = false) : Own w W' L K := by
  obtain ⟨h1, hk0, F, h2⟩ := h
  have hle := h1.size
  refine ⟨⟨hg.os.trans h1.os, hg.tape.trans h1.tape, hg.output.trans h1.output, Nat.le_trans hle hg.size, fun k hk => (hg.block k (by omega) (fun e => by have := (hr k e.symm).1; omega)).trans (h1.block k hk)⟩, fun k o hk => ⟨(hg.block k (blk_lt (hk0 k o hk).1) (fun e => (hr k e.symm).2.1 o hk)).trans (hk0 k o hk).1, (hk0 k o hk).2⟩, F, fun i r hi => r.move (h2 i r hi) (fun k hk hl hs => ⟨hg.block k hl (fun e => ?_), hk⟩)⟩
  obtain ⟨o, ho, hc⟩ := (hr k e.symm).2.2
  exact not_solid ho hc hs

/-! ### what is read -/
section
variable {w W : World} {L : List Res} {K : Nat → Obj → Prop}
theorem Own.box_at {g t : Nat} {cs : Array Value} (h : Own w W L K) (i : Nat) (hi : L[i]? = some (.box g t cs)) : W.heap[g]? = some (.cells cs t (0, 0)) ∧ w.heap.size ≤ g := by
  obtain ⟨_, _, F, h2⟩ := h
  exact ⟨(h2 i _ hi).2, (h2 i _ hi).1.1⟩
theorem Own.box_cell {g t : Nat} {cs : Array Value} (h : Own w W L K) (i : Nat) (hi : L[i]? = some (.box g t cs)) (j : Nat) {u : Value} (hj : cs[j]? = some u) : W.cell? ⟨g, j, none⟩ = some u := (blk_cell (h.box_at i hi).1 j).trans hj
theorem Own.box_free {g t : Nat} {cs : Array Value} (h : Own w W L K) (i : Nat) (hi : L[i]? = some (.box g t cs)) (j : Nat) : W.frozen? ⟨g, j, none⟩ = false := blk_frozen (h.box_at i hi).1 j
theorem Own.box_ne {g g' t t' : Nat} {cs cs' : Array Value} (h : Own w W L K) (i j : Nat) (hij : i ≠ j) (hi : L[i]? = some (.box g t cs)) (hj : L[j]? = some (.box g' t' cs')) : g ≠ g' := by
  obtain ⟨_, _, F, h2⟩ := h
  rintro rfl
  exact hij ((h2 i _ hi).1.2.symm.trans (h2 j _ hj).1.2)
theorem Own.row_at {α : Type} {d : Kd α} {e B : Nat} {v : Value} {xs : List α} (h : Own w W L K) (i : Nat) (hi : L[i]? = some (.row d e B v xs)) : ∃ A c, v = .slice A xs.length c ∧ xs.length ≤ c ∧ d.C W A xs.length xs := by
  obtain ⟨_, _, F, h2⟩ := h
  exact Kd.R_reads (h2 i _ hi)
theorem Own.row_sl {α : Type} {d : Kd α} {e B n c : Nat} {A : Option Addr} {xs : List α} (h : Own w W L K) (i : Nat) (hi : L[i]? = some (.row d e B (.slice A n c) xs)) : n = xs.length ∧ n ≤ c ∧ d.C W A xs.length xs := by
  obtain ⟨_, _, F, h2⟩ := h
  exact Kd.R_reads' (h2 i _ hi)
theorem Own.row_R {α : Type} {d : Kd α} {e B : Nat} {v : Value} {xs : List α} (h : Own w W L K) (i : Nat) (hi : L[i]? = some (.row d e B v xs)) : d.R e W B (fun _ => True) v xs := by
  obtain ⟨_, _, F, h2⟩ := h
  exact Kd.R_mono (h2 i _ hi) (fun _ _ => trivial)
theorem Own.val_K {α : Type} {d : Kd α} {B : Nat} {x : α} {cs : List Value} (h : Own w W L K) (i : Nat) (hi : L[i]? = some (.val d B x cs)) : d.K W x cs := by
  obtain ⟨_, _, F, h2⟩ := h
  exact d.K_of_M (h2 i _ hi)
theorem Own.old {α : Type} {d : Kd α} {A : Option Addr} {n : Nat} {xs : List α} (h : Own w W L K) (hr : d.C w A n xs) : d.C W A n xs := Kd.C_below hr h.below
end

/-! ### events -/
/-- A variable in memory is written, at the cells from o on. -/
theorem Own.write {w W : World} {L : List Res} {K : Nat → Obj → Prop} {g t : Nat} {cs cs' : Array Value} (h : Own w W L K) (i : Nat) (hi : L[i]? = some (.box g t cs)) (o : Nat) (vs : List Value) (hl : o + vs.length ≤ cs.size) (hc : (cs.toList.take o ++ vs ++ cs.toList.drop (o + vs.length)).toArray = cs') : Own w (W.setCells g o vs) (L.set i (.box g t cs')) K := by
  obtain ⟨h1, h2, h3, h4⟩ := setCells_same g vs o W
  refine h.turn i hi h1 h2 h3 (by omega) (fun ok hf hp => ⟨⟨hp.1, ?_⟩, fun k hk hn => setCells_far vs o k (fun e => hn (e ▸ ⟨hp.1, solid_cells hp.2⟩))⟩)
  obtain ⟨cur, hc1, hc2, hc3⟩ := setCells_row vs o W cs hp.2 hl
  rw [hc1, ← hc, ← hc3]
theorem Own.put {w W : World} {L : List Res} {K : Nat → Obj → Prop} {g t : Nat} {cs cs' : Array Value} (h : Own w W L K) (i : Nat) (hi : L[i]? = some (.box g t cs)) (o : Nat) (u : Value) (hl : o < cs.size) (hc : cs.setIfInBounds o u = cs') : Own w (W.setCell ⟨g, o, none⟩ u) (L.set i (.box g t cs')) K :=
  h.turn i hi rfl rfl rfl (by simp [World.setCell]) (fun ok hf hp => ⟨⟨hp.1, by rw [← hc]; exact blk_set hp.2 o u⟩, fun k hk hn => Below.heap_setCell W _ u k (fun e => hn (e ▸ ⟨hp.1, solid_cells hp.2⟩))⟩)
/-- A row of simple things: an element is written. -/
theorem Own.rowput {α : Type} {enc : α → Value} {h1 : ∀ x, (enc x).oneCell' = true} {e B g n c : Nat} {w W : World} {L : List Res} {K : Nat → Obj → Prop} {xs : List α} (h : Own w W L K) (i : Nat) (hi : L[i]? = some (.row (Kd.scalar enc h1) e B (.slice (some ⟨g, 0, none⟩) n c) xs)) (j : Int) (x : α) :
    Own w (W.setCell ⟨g, j.toNat, none⟩ (enc x)) (L.set i (.row (Kd.scalar enc h1) e B (.slice (some ⟨g, 0, none⟩) n c) (xs.set j.toNat x))) K :=
  h.turn i hi rfl rfl rfl (by simp [World.setCell]) (fun ok hf hp => ⟨Kd.R_putn hp j x, fun k hk hn => Below.heap_setCell W _ _ k (fun e => hn (e ▸ ⟨hp.1 g rfl, by obtain ⟨_, inner, ho, _⟩ := hp; obtain ⟨cs, hc⟩ := own_typed ho g rfl; exact solid_cells hc⟩))⟩)
section
variable {P : Program} {ops : Array Oper} {rest : List Oper} {o : Oper} {a : Act} {Q : Exit → Act → World → Prop} {w W : World} {L : List Res} {K : Nat → Obj → Prop}
/-- A new variable in memory. -/
theorem ev_box {cs : Array Value} {t N : Nat} (HO : Own w W L K) (hgd : o.guard = none) (_hd : o.dst = some N)
    (hrun : (execOp a.eval o).run P W = .ok (.value (.pointer (some ⟨W.heap.size, 0, none⟩))) (W.alloc (.cells cs t (0, 0))))
    (h : ∀ g W', Own w W' (L ++ [.box g t cs]) K → Below W.heap.size W W' → wpList P ops Q rest (a.put o.dst (.pointer (some ⟨g, 0, none⟩))) W') : wpList P ops Q (o :: rest) a W := by
  refine Kd.event_run hgd hrun (h _ _ (HO.add (below_alloc (Below.refl _ _) _) ⟨Nat.le_refl _, blk_new W _⟩) (below_alloc (Below.refl _ _) _))
/-- A variable in memory is written whole or in part: a value of some cells. -/
theorem ev_storeS {g t : Nat} {cs cs' : Array Value} {ty : TypeId} {p : Tmp} {x : Operand} (v : Value) (i : Nat) (HO : Own w W L K) (hi : L[i]? = some (.box g t cs)) (hgd : o.guard = none) (ho : o.op = .store ty (.tmp p) x) (hN : o.dst = none) (q : Nat)
    (hp : a.eval (.tmp p) = .pointer (some ⟨g, q, none⟩)) (hv : a.eval x = v) (hty : (P.info? ty).map (·.size) = some v.cells.size) (h1 : ∀ u ∈ v.cells.toList, u.oneCell' = true) (hl : q + v.cells.toList.length ≤ cs.size)
    (hc : (cs.toList.take q ++ v.cells.toList ++ cs.toList.drop (q + v.cells.toList.length)).toArray = cs')
    (h : ∀ W', W'.heap.size = W.heap.size → Own w W' (L.set i (.box g t cs')) K → wpList P ops Q rest a W') : wpList P ops Q (o :: rest) a W := by
  refine wpList_plain hgd fun K hK => ?_
  have hb := (HO.box_at i hi).1
  have hrun : (execOp a.eval o).run P W = .ok .skip (W.setCells g q v.cells.toList) := by
    have h2 := run_storeCells_cells (P := P) g q v.cells.toList 0 W (fun j hj => by
        rw [Nat.add_zero, blk_cell hb, Array.getElem?_eq_getElem (by omega)]; rfl) (fun j hj => blk_frozen hb _) h1
    rw [Nat.add_zero] at h2
    cases hq : P.info? ty with
    | none => simp [hq] at hty
    | some inf =>
      have hs : v.cells.size = inf.size := by simp [hq] at hty; omega
      unfold execOp
      simp only [ho, hp, hv, Instr.storeAt, Instr.sureAddr, Sem.run_bind, Sem.run_pure, Result.andThen_ok]
      simp [storeVar, sizeOf, typeInfo, hq, hs, h2, Result.andThen]
  unfold Oper.wp
  rw [hrun]
  show K (a.put o.dst undef) _
  rw [hN]
  exact hK _ _ (h _ (setCells_same g _ q W).2.2.2 (HO.write i hi q _ hl hc))
/-- A variable in memory is written whole or in part: a value of some cells. -/
theorem ev_store {g t : Nat} {cs cs' : Array Value} {ty : TypeId} {p : Tmp} {x : Operand} (v : Value) (i : Nat) (HO : Own w W L K) (hi : L[i]? = some (.box g t cs)) (hgd : o.guard = none) (ho : o.op = .store ty (.tmp p) x) (hN : o.dst = none) (q : Nat)
    (hp : a.eval (.tmp p) = .pointer (some ⟨g, q, none⟩)) (hv : a.eval x = v) (hty : (P.info? ty).map (·.size) = some v.cells.size) (h1 : ∀ u ∈ v.cells.toList, u.oneCell' = true) (hl : q + v.cells.toList.length ≤ cs.size)
    (hc : (cs.toList.take q ++ v.cells.toList ++ cs.toList.drop (q + v.cells.toList.length)).toArray = cs')
    (h : ∀ W', Own w W' (L.set i (.box g t cs')) K → wpList P ops Q rest a W') : wpList P ops Q (o :: rest) a W :=
  ev_storeS v i HO hi hgd ho hN q hp hv hty h1 hl hc (fun W' _ => h W')
/-- append of one element. 'hM': the element, told; it leads to nothing of its own. -/
theorem ev_append {α : Type} {d : Kd α} {e : Nat} {v : Value} {xs : List α} (i : Nat) (HO : Own w W L K) (hi : L[i]? = some (.row d e w.heap.size v xs)) (hgd : o.guard = none) (s x : Operand) (t : TypeId) (z : Value) (bytes : Nat)
    (ho : o.op = .call { callee := .builtin .append, args := #[s, x], argTypes := #[t, t] })
    (ht : P.underlying t = some (.slice e)) (hinfo : (P.info? e).map (fun i => (i.zero, i.size, i.bytes)) = some (some z, d.sz, bytes)) (hz : z.cells.size = d.sz) (hs0 : 0 < d.sz) (hb0 : 0 < bytes)
    (p : α) (cs : List Value) (hs : a.eval s = v) (hx : a.eval x = .slice (some ⟨W.heap.size, 0, none⟩) 1 1) (hM : d.M W w.heap.size (fun _ => False) p cs) (hl : (xs.length + 1) * bytes ≤ 140737488355328)
    (h : ∀ A c W', Own w W' (L.set i (.row d e w.heap.size (.slice A (xs.length + 1) c) (xs ++ [p]))) K → wpList P ops Q rest (a.put o.dst (.slice A (xs.length + 1) c)) W') : wpList P ops Q (o :: rest) a (W.alloc (.cells cs.toArray e)) := by
  obtain ⟨h1, hk0, F, h2⟩ := HO
  have hle := h1.size
  have hR : d.R e W w.heap.size (fun k => w.heap.size ≤ k ∧ (k < W.heap.size → F k = i)) v xs := Kd.R_mono (Kd.R_bound (h2 i _ hi)) (fun k hk => ⟨hk.1.1, fun _ => hk.1.2⟩)
  refine Kd.R_append d (w0 := w) w.heap.size hgd s x t e z bytes ho ht hinfo hz hs0 hb0 v xs p cs _ (fun _ => False) hs hx hM (fun _ hk => hk.elim) (fun k hk => ⟨by omega, fun hl => by omega⟩) hR h1 hle hl ?_
  intro v1 w1 hR1 hb1 hg1 hat
  obtain ⟨A, c, rfl⟩ := Kd.R_slice hR1
  rw [List.length_append, List.length_singleton] at hR1 ⊢
  have hSol : ∀ k, some k = v.ownBlock → Solid W k := fun k he => by obtain ⟨_, inner, ho2, _⟩ := hR; obtain ⟨cs2, hc2⟩ := own_typed ho2 k he.symm; exact solid_cells hc2
  refine h A c w1 ⟨hb1, fun k o hk => ⟨(hg1.block k (blk_lt (hk0 k o hk).1) (fun he => not_solid (hk0 k o hk).1 (hk0 k o hk).2 (hSol k he))).trans (hk0 k o hk).1, (hk0 k o hk).2⟩, fun k => if k < W.heap.size then F k else i, fun j q hj => ?_⟩
  have hil : i < L.length := (List.getElem?_eq_some_iff.mp hi).1
  rw [List.getElem?_set] at hj
  by_cases e1 : i = j
  · subst e1
    rw [if_pos rfl, if_pos hil] at hj
    injection hj with hj
    subst hj
    refine Kd.R_mono hR1 (fun k hk => ⟨hk.1, ?_⟩)
    dsimp only
    split
    · rename_i hlt; exact hk.2 hlt
    · rfl
  · rw [if_neg e1] at hj
    refine q.move (h2 j q hj) (fun k hk hl _ => ⟨hg1.block k hl (fun he => e1 ?_), hk.1, by dsimp only; rw [if_pos hl]; exact hk.2⟩)
    exact ((h2 i _ hi).1 k he.symm).2.symm.trans hk.2
/-- append of one element that leads to things of its own (place j, told as a value). -/
theorem ev_appendv {α : Type} {d : Kd α} {e : Nat} {v : Value} {xs : List α} {p : α} {cs : List Value} (i j : Nat) (hij : i ≠ j) (HO : Own w W L K) (hi : L[i]? = some (.row d e w.heap.size v xs)) (hj : L[j]? = some (.val d w.heap.size p cs)) (hgd : o.guard = none) (s x : Operand) (t : TypeId) (z : Value) (bytes : Nat)
    (ho : o.op = .call { callee := .builtin .append, args := #[s, x], argTypes := #[t, t] })
    (ht : P.underlying t = some (.slice e)) (hinfo : (P.info? e).map (fun i => (i.zero, i.size, i.bytes)) = some (some z, d.sz, bytes)) (hz : z.cells.size = d.sz) (hs0 : 0 < d.sz) (hb0 : 0 < bytes)
    (hs : a.eval s = v) (hx : a.eval x = .slice (some ⟨W.heap.size, 0, none⟩) 1 1) (hl : (xs.length + 1) * bytes ≤ 140737488355328)
    (h : ∀ A c W', Own w W' ((L.set j .emp).set i (.row d e w.heap.size (.slice A (xs.length + 1) c) (xs ++ [p]))) K → wpList P ops Q rest (a.put o.dst (.slice A (xs.length + 1) c)) W') : wpList P ops Q (o :: rest) a (W.alloc (.cells cs.toArray e)) := by
  obtain ⟨h1, hk0, F, h2⟩ := HO
  have hle := h1.size
  have hRi := h2 i _ hi
  have hR : d.R e W w.heap.size (fun k => w.heap.size ≤ k ∧ (k < W.heap.size → F k = i ∨ F k = j)) v xs := Kd.R_mono hRi (fun k hk => ⟨hk.1, fun _ => .inl hk.2⟩)
  refine Kd.R_append d (w0 := w) w.heap.size hgd s x t e z bytes ho ht hinfo hz hs0 hb0 v xs p cs _ (fun k => w.heap.size ≤ k ∧ F k = j) hs hx (h2 j _ hj) (fun k hk => ⟨⟨hk.1, fun _ => .inr hk.2⟩, fun he => hij ((hRi.1 k he.symm).2.symm.trans hk.2)⟩) (fun k hk => ⟨by omega, fun hl => by omega⟩) hR h1 hle hl ?_
  intro v1 w1 hR1 hb1 hg1 hat
  obtain ⟨A, c, rfl⟩ := Kd.R_slice hR1
  rw [List.length_append, List.length_singleton] at hR1 ⊢
  have hSol : ∀ k, some k = v.ownBlock → Solid W k := fun k he => by obtain ⟨_, inner, ho2, _⟩ := hR; obtain ⟨cs2, hc2⟩ := own_typed ho2 k he.symm; exact solid_cells hc2
  refine h A c w1 ⟨hb1, fun k o hk => ⟨(hg1.block k (blk_lt (hk0 k o hk).1) (fun he => not_solid (hk0 k o hk).1 (hk0 k o hk).2 (hSol k he))).trans (hk0 k o hk).1, (hk0 k o hk).2⟩, fun k => if k < W.heap.size then (if F k = j then i else F k) else i, fun q r hq => ?_⟩
  have hil : i < L.length := (List.getElem?_eq_some_iff.mp hi).1
  have hjl : j < L.length := (List.getElem?_eq_some_iff.mp hj).1
  rw [List.getElem?_set] at hq
  by_cases e1 : i = q
  · subst e1
    rw [if_pos rfl, if_pos (by simpa using hil)] at hq
    injection hq with hq
    subst hq
    refine Kd.R_mono hR1 (fun k hk => ⟨hk.1, ?_⟩)
    dsimp only
    split
    · rename_i hlt
      split
      · rfl
      · rename_i hnj
        exact (hk.2 hlt).resolve_right hnj
    · rfl
  · rw [if_neg e1, List.getElem?_set] at hq
    by_cases e2 : j = q
    · subst e2
      rw [if_pos rfl, if_pos hjl] at hq
      injection hq with hq
      subst hq
      trivial
    · rw [if_neg e2] at hq
      refine r.move (h2 q r hq) (fun k hk hl _ => ⟨hg1.block k hl (fun he => e1 ((hRi.1 k he.symm).2.symm.trans hk.2)), hk.1, ?_⟩)
      dsimp only
      rw [if_pos hl, if_neg (fun h3 => e2 (h3.symm.trans hk.2))]
      exact hk.2
/-- append of a row that is read. -/
theorem ev_rows {α : Type} {d : Kd α} {e : Nat} {v : Value} {xs : List α} {Rr : α → List Value → Prop} (i : Nat) (HO : Own w W L K) (hi : L[i]? = some (.row d e w.heap.size v xs)) (hgd : o.guard = none) (s x : Operand) (t : TypeId) (z : Value) (bytes : Nat)
    (ho : o.op = .call { callee := .builtin .append, args := #[s, x], argTypes := #[t, t] })
    (ht : P.underlying t = some (.slice e)) (hinfo : (P.info? e).map (fun i => (i.zero, i.size, i.bytes)) = some (some z, d.sz, bytes)) (hz : z.cells.size = d.sz) (hs0 : 0 < d.sz) (hb0 : 0 < bytes)
    (ys : List α) (A1 : Option Addr) (c1 : Nat) (hs : a.eval s = v) (hx : a.eval x = .slice A1 ys.length c1) (HR : ReadsRow Rr d.sz W A1 ys.length ys) (hKM : ∀ x cs, Rr x cs → d.M W w.heap.size (fun _ => False) x cs) (hl : (xs.length + ys.length) * bytes ≤ 140737488355328)
    (h : ∀ A c W', Own w W' (L.set i (.row d e w.heap.size (.slice A (xs ++ ys).length c) (xs ++ ys))) K → wpList P ops Q rest (a.put o.dst (.slice A (xs ++ ys).length c)) W') : wpList P ops Q (o :: rest) a W := by
  obtain ⟨h1, hk0, F, h2⟩ := HO
  have hle := h1.size
  have hR : d.R e W w.heap.size (fun k => w.heap.size ≤ k ∧ (k < W.heap.size → F k = i)) v xs := Kd.R_mono (Kd.R_bound (h2 i _ hi)) (fun k hk => ⟨hk.1.1, fun _ => hk.1.2⟩)
  refine Kd.R_append_rows d (w0 := w) w.heap.size hgd s x t e z bytes ho ht hinfo hz hs0 hb0 v xs ys A1 ys.length c1 _ (fun _ => False) hs hx hR HR hKM (fun _ hk => hk.elim) (fun k hk => ⟨by omega, fun hl => by omega⟩) h1 hle hl ?_
  intro v1 w1 hR1 hb1 hg1 hat
  obtain ⟨A, c, rfl⟩ := Kd.R_slice hR1
  have hSol : ∀ k, some k = v.ownBlock → Solid W k := fun k he => by obtain ⟨_, inner, ho2, _⟩ := hR; obtain ⟨cs2, hc2⟩ := own_typed ho2 k he.symm; exact solid_cells hc2
  refine h A c w1 ⟨hb1, fun k o hk => ⟨(hg1.block k (blk_lt (hk0 k o hk).1) (fun he => not_solid (hk0 k o hk).1 (hk0 k o hk).2 (hSol k he))).trans (hk0 k o hk).1, (hk0 k o hk).2⟩, fun k => if k < W.heap.size then F k else i, fun j q hj => ?_⟩
  have hil : i < L.length := (List.getElem?_eq_some_iff.mp hi).1
  rw [List.getElem?_set] at hj
  by_cases e1 : i = j
  · subst e1
    rw [if_pos rfl, if_pos hil] at hj
    injection hj with hj
    subst hj
    refine Kd.R_mono hR1 (fun k hk => ⟨hk.1, ?_⟩)
    dsimp only
    split
    · rename_i hlt; exact hk.2 hlt
    · rfl
  · rw [if_neg e1] at hj
    refine q.move (h2 j q hj) (fun k hk hl _ => ⟨hg1.block k hl (fun he => e1 ?_), hk.1, by dsimp only; rw [if_pos hl]; exact hk.2⟩)
    exact ((h2 i _ hi).1 k he.symm).2.symm.trans hk.2
/-- A literal row. -/
theorem ev_lit {α : Type} (d : Kd α) (e : Nat) {N : Nat} {xs : List α} {inner : List Value} (HO : Own w W L K) (hgd : o.guard = none) (_hd : o.dst = some N)
    (hrun : (execOp a.eval o).run P W = .ok (.value (.slice (some ⟨W.heap.size, 0, none⟩) xs.length xs.length)) (W.alloc (.cells inner.toArray e)))
    (hrep : Reps (d.M W w.heap.size (fun _ => False)) d.sz xs inner) (hm : xs.length ≤ 9223372036854775807)
    (h : ∀ A c W', Own w W' (L ++ [.row d e w.heap.size (.slice A xs.length c) xs]) K → Below W.heap.size W W' → wpList P ops Q rest (a.put o.dst (.slice A xs.length c)) W') : wpList P ops Q (o :: rest) a W := by
  refine Kd.R_lit d (w0 := w) w.heap.size e hgd _hd (ok := fun k => W.heap.size ≤ k) hrun hrep (fun _ hk => hk.elim) (Nat.le_refl _) HO.below HO.le hm ?_
  intro v1 w1 hR hb hg hat
  obtain ⟨A, c, rfl⟩ := Kd.R_slice hR
  have hb2 : Below W.heap.size W w1 := ⟨hg.os, hg.tape, hg.output, hg.size, fun k hk => hg.block k hk (by simp)⟩
  exact h A c w1 (HO.add hb2 hR) hb2
/-- make([]T, n). -/
theorem ev_make {α : Type} (d : Kd α) (e : Nat) {N : Nat} (HO : Own w W L K) (hgd : o.guard = none) (hd : o.dst = some N) (t : TypeId) (x y : Operand) (ho : o.op = .makeSlice t x y) (n : Int) (hx : a.eval x = .int .i64 n) (hy : a.eval y = .int .i64 n)
    (ht : P.underlying t = some (.slice e)) (z : Value) (bytes : Nat) (hinfo : (P.info? e).map (fun i => (i.zero, i.size, i.bytes)) = some (some z, d.sz, bytes)) (hz : z.cells.size = d.sz) (hs0 : 0 < d.sz) (hb0 : 0 < bytes)
    (z0 : α) (hzero : d.M W w.heap.size (fun _ => False) z0 z.cells.toList) (h0 : 0 ≤ n) (hl : n.toNat * bytes ≤ 281474976710656)
    (h : ∀ A c W', Own w W' (L ++ [.row d e w.heap.size (.slice A n.toNat c) (List.replicate n.toNat z0)]) K → Below W.heap.size W W' → wpList P ops Q rest (a.put o.dst (.slice A n.toNat c)) W') : wpList P ops Q (o :: rest) a W := by
  refine Kd.R_make d (w0 := w) w.heap.size e hgd hd t x y ho n hx hy ht z bytes hinfo hz hs0 hb0 z0 (ok := fun k => W.heap.size ≤ k) hzero (fun _ hk => hk.elim) (Nat.le_refl _) h0 hl HO.below HO.le ?_
  intro v1 w1 hR hb hg hat
  obtain ⟨A, c, rfl⟩ := Kd.R_slice hR
  have hb2 : Below W.heap.size W w1 := ⟨hg.os, hg.tape, hg.output, hg.size, fun k hk => hg.block k hk (by simp)⟩
  rw [List.length_replicate] at hR ⊢
  exact h A c w1 (HO.add hb2 hR) hb2
/-- A row without elements. -/
theorem Own.newrow {α : Type} (HO : Own w W L K) (d : Kd α) (e : Nat) : Own w W (L ++ [.row d e w.heap.size (.slice none 0 0) []]) K := HO.add (Below.refl _ _) (Kd.R_nil d e W _ _)
/-- Behind a call that gave a row of its own. -/
theorem Own.called {α : Type} {d : Kd α} {e : Nat} {v : Value} {xs : List α} {W' : World} (HO : Own w W L K) (hb : Below W.heap.size W W') (hR : d.R e W' W.heap.size (fun _ => True) v xs) : Own w W' (L ++ [.row d e w.heap.size v xs]) K :=
  HO.add hb (Kd.R_lower (Kd.R_mono (Kd.R_bound hR) (fun k hk => hk.2.1)) HO.le)
end

end Go.Proofs.Ytlgkeaildncojaa.Q

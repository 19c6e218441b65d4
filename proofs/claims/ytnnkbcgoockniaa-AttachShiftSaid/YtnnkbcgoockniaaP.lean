/- Rows whose elements' own rows lie apart (the words' S), as things of one's own: append, stores into an element, stores into an element's own row. -/
import Derived.Test.YtnnkbcgoockniaaF
import Derived.Test.YtnnkbcgoockniaaWApart
namespace Go.Proofs.Ytnnkbcgoockniaa.Q
open Go.RowKit Go.Shelf Go.Proofs.YtnnkbcgoockniaaW.PrintWords Go.Proofs.YtnnkbcgoockniaaW.PrintLast Go.Proofs.YtnnkbcgoockniaaW.PrintMore
set_option linter.unusedSimpArgs false
set_option linter.unusedVariables false
/-- A row, no two of whose elements lead to one block. -/
def Res.srow {α : Type} (d : Kd α) (e B : Nat) (v : Value) (xs : List α) : Res := ⟨fun W ok => Kd.S d e W B ok v xs, fun {W W' ok ok'} h hm => by
  obtain ⟨f, h⟩ := h
  have key : ∀ k, ok k ∧ B ≤ k ∧ k < W.heap.size ∧ (∃ q, q ∈ e :: (Kd.tag f d).E ∧ ∃ cells, W.heap[k]? = some (.cells cells q (0, 0))) → W'.heap[k]? = W.heap[k]? ∧ ok' k := fun k hk => by
    obtain ⟨h1, _, h2, q, _, cells, hc⟩ := hk
    exact hm k h1 h2 (solid_cells hc)
  exact ⟨f, Kd.R_mono (Kd.R_move (Kd.R_bound h) (fun k hk => (key k hk).1)) (fun k hk => (key k hk).2)⟩⟩
section
variable {P : Program} {ops : Array Oper} {Q : Exit → Act → World → Prop} {o : Oper} {rest : List Oper} {a : Act} {w W : World} {L : List Res} {K : Nat → Obj → Prop}
theorem Own.newsrow {α : Type} (HO : Own w W L K) (d : Kd α) (e : Nat) : Own w W (L ++ [.srow d e w.heap.size (.slice none 0 0) []]) K := HO.add (Below.refl _ _) (Kd.S_nil d e W _ _)
theorem Own.scalled {α : Type} {d : Kd α} {e : Nat} {v : Value} {xs : List α} {W' : World} (HO : Own w W L K) (hb : Below W.heap.size W W') (hR : Kd.S d e W' W.heap.size (fun _ => True) v xs) : Own w W' (L ++ [.srow d e w.heap.size v xs]) K :=
  HO.add hb (Kd.S_lower (Kd.S_mono (Kd.S_bound hR) (fun k hk => hk.2.1)) HO.le)
theorem Own.srow_at {α : Type} {d : Kd α} {e B : Nat} {v : Value} {xs : List α} (h : Own w W L K) (i : Nat) (hi : L[i]? = some (.srow d e B v xs)) : ∃ A c, v = .slice A xs.length c ∧ xs.length ≤ c ∧ d.C W A xs.length xs := by
  obtain ⟨_, _, F, h2⟩ := h
  exact Kd.S_reads (h2 i _ hi)
theorem Own.srow_sl {α : Type} {d : Kd α} {e B n c : Nat} {A : Option Addr} {xs : List α} (h : Own w W L K) (i : Nat) (hi : L[i]? = some (.srow d e B (.slice A n c) xs)) : n = xs.length ∧ n ≤ c ∧ d.C W A xs.length xs := by
  obtain ⟨_, _, F, h2⟩ := h
  exact Kd.S_reads' (h2 i _ hi)
theorem Own.srow_S {α : Type} {d : Kd α} {e B : Nat} {v : Value} {xs : List α} (h : Own w W L K) (i : Nat) (hi : L[i]? = some (.srow d e B v xs)) : Kd.S d e W B (fun _ => True) v xs := by
  obtain ⟨_, _, F, h2⟩ := h
  exact Kd.S_mono (h2 i _ hi) (fun _ _ => trivial)
/-- append of one element that leads to things of its own (place j, told as a value). -/
theorem ev_appends {α : Type} {d : Kd α} {e : Nat} {v : Value} {xs : List α} {p : α} {cs : List Value} (i j : Nat) (hij : i ≠ j) (HO : Own w W L K) (hi : L[i]? = some (.srow d e w.heap.size v xs)) (hj : L[j]? = some (.val d w.heap.size p cs)) (hgd : o.guard = none) (s x : Operand) (t : TypeId) (z : Value) (bytes : Nat)
    (ho : o.op = .call { callee := .builtin .append, args := #[s, x], argTypes := #[t, t] })
    (ht : P.underlying t = some (.slice e)) (hinfo : (P.info? e).map (fun i => (i.zero, i.size, i.bytes)) = some (some z, d.sz, bytes)) (hz : z.cells.size = d.sz) (hs0 : 0 < d.sz) (hb0 : 0 < bytes)
    (hs : a.eval s = v) (hx : a.eval x = .slice (some ⟨W.heap.size, 0, none⟩) 1 1) (hl : (xs.length + 1) * bytes ≤ 140737488355328)
    (h : ∀ A c W', Own w W' ((L.set j .emp).set i (.srow d e w.heap.size (.slice A (xs.length + 1) c) (xs ++ [p]))) K → wpList P ops Q rest (a.put o.dst (.slice A (xs.length + 1) c)) W') : wpList P ops Q (o :: rest) a (W.alloc (.cells cs.toArray e)) := by
  obtain ⟨h1, hk0, F, h2⟩ := HO
  have hle := h1.size
  have hRi : Kd.S d e W w.heap.size (fun k => w.heap.size ≤ k ∧ F k = i) v xs := h2 i _ hi
  have hown : ∀ k, v.ownBlock = some k → w.heap.size ≤ k ∧ F k = i := (Kd.S_R hRi).1
  refine Kd.S_append d (w0 := w) w.heap.size hgd s x t e z bytes ho ht hinfo hz hs0 hb0 v xs p cs (fun k => w.heap.size ≤ k ∧ (k < W.heap.size → F k = i ∨ F k = j)) (fun k => w.heap.size ≤ k ∧ F k = j) hs hx (h2 j _ hj) (fun k hk => ⟨⟨hk.1, fun _ => .inr hk.2⟩, fun he => hij ((hown k he.symm).2.symm.trans hk.2)⟩) (fun k hk => ⟨by omega, fun hl => by omega⟩) (Kd.S_mono hRi (fun k hk => ⟨⟨hk.1, fun _ => .inl hk.2⟩, fun h => hij (hk.2.symm.trans h.2)⟩)) h1 hle hl ?_
  intro v1 w1 hR1 hb1 hg1 hat
  obtain ⟨A, c, rfl⟩ := Kd.S_slice hR1
  rw [List.length_append, List.length_singleton] at hR1 ⊢
  have hSol : ∀ k, some k = v.ownBlock → Solid W k := fun k he => by obtain ⟨cs2, hc2⟩ := Kd.S_typed hRi k he.symm; exact solid_cells hc2
  refine h A c w1 ⟨hb1, fun k o hk => ⟨(hg1.block k (blk_lt (hk0 k o hk).1) (fun he => not_solid (hk0 k o hk).1 (hk0 k o hk).2 (hSol k he))).trans (hk0 k o hk).1, (hk0 k o hk).2⟩, fun k => if k < W.heap.size then (if F k = j then i else F k) else i, fun q r hq => ?_⟩
  have hil : i < L.length := (List.getElem?_eq_some_iff.mp hi).1
  have hjl : j < L.length := (List.getElem?_eq_some_iff.mp hj).1
  rw [List.getElem?_set] at hq
  by_cases e1 : i = q
  · subst e1
    rw [if_pos rfl, if_pos (by simpa using hil)] at hq
    injection hq with hq
    subst hq
    refine Kd.S_mono hR1 (fun k hk => ⟨hk.1, ?_⟩)
    dsimp only
    split
    · rename_i hlt
      split
      · rfl
      · rename_i hnj
        exact (hk.2 hlt).resolve_right hnj
    · rfl
  · rw [if_neg e1, List.getElem?_set] at hq
    by_cases e2 : j = q
    · subst e2
      rw [if_pos rfl, if_pos hjl] at hq
      injection hq with hq
      subst hq
      trivial
    · rw [if_neg e2] at hq
      refine r.move (h2 q r hq) (fun k hk hl _ => ⟨hg1.block k hl (fun he => e1 ((hown k he.symm).2.symm.trans hk.2)), hk.1, ?_⟩)
      dsimp only
      rw [if_pos hl, if_neg (fun h3 => e2 (h3.symm.trans hk.2))]
      exact hk.2
theorem zip_set {α : Type} (xs : List α) (i : Nat) (x : α) : xs.zipIdx.set i (x, i) = (xs.set i x).zipIdx := by
  apply List.ext_getElem?
  intro j
  rw [List.getElem?_set, List.getElem?_zipIdx, List.getElem?_zipIdx, List.getElem?_set, List.length_zipIdx]
  by_cases h : i = j
  · subst h
    by_cases hl : i < xs.length
    · simp [hl]
    · simp [hl]
  · simp [h]
theorem plain_add (g m j : Nat) : (⟨((⟨g, 0, none⟩ : Addr).add m).block, ((⟨g, 0, none⟩ : Addr).add m).off + j, none⟩ : Addr) = ⟨g, m + j, none⟩ := by
  rw [add_at]
  simp
/-- xs[i].f = u: cells of element i of a row are written. -/
theorem ev_storeO {α : Type} {d : Kd α} {e n cap : Nat} {ad : Addr} {xs : List α} (s : Nat) (HO : Own w W L K) (hi : L[s]? = some (.srow d e w.heap.size (.slice (some ad) n cap) xs)) (hN : o.dst = none) (hgd : o.guard = none) (t : TypeId) (p x : Operand) (ho : o.op = .store t p x)
    (i j : Nat) (z x' : α) (u : Value) (seg : List Value) (haddr : a.eval p = .pointer (some ⟨(ad.add (i * d.sz)).block, (ad.add (i * d.sz)).off + j, none⟩)) (hx : a.eval x = u) (hu : u.cells.toList = seg) (ht : (P.info? t).map (·.size) = some seg.length) (h1 : ∀ q ∈ seg, q.oneCell' = true)
    (hin : i < n) (hj : j + seg.length ≤ d.sz) (hM : ∀ ok c, d.M W w.heap.size ok (xs.getD i z) c → d.M W w.heap.size ok x' (c.take j ++ seg ++ c.drop (j + seg.length)))
    (h : ∀ W', Own w W' (L.set s (.srow d e w.heap.size (.slice (some ad) n cap) (xs.set i x'))) K → wpList P ops Q rest a W') : wpList P ops Q (o :: rest) a W := by
  obtain ⟨hb, hk0, F, h2⟩ := HO
  have hS : Kd.S d e W w.heap.size (fun k => w.heap.size ≤ k ∧ F k = s) (.slice (some ad) n cap) xs := h2 s _ hi
  have hn := (Kd.S_reads' hS).1
  obtain ⟨cs0, hty⟩ : ∃ cs, W.heap[ad.block]? = some (.cells cs e (0, 0)) := by
    obtain ⟨g, rfl⟩ := Kd.R_head (Kd.S_R hS)
    exact Kd.S_typed hS g (by simp [Value.ownBlock])
  obtain ⟨f, hR⟩ := hS
  obtain ⟨g, rfl⟩ := Kd.R_head hR
  obtain ⟨c, hcl, hMc, hcc, -⟩ := Kd.R_elem hR (z, i) (i : Int) (by omega) (by omega)
  have hgd0 : xs.zipIdx.getD i (z, i) = (xs.getD i z, i) := by
    rw [List.getD_eq_getElem?_getD, List.getD_eq_getElem?_getD, List.getElem?_zipIdx, Nat.zero_add]
    cases xs[i]? <;> rfl
  rw [Int.toNat_natCast, hgd0] at hMc
  rw [plain_add] at haddr
  refine Kd.R_store (Kd.tag f d) (w0 := w) w.heap.size hN hgd t p x ho e (g := g) (o' := i * d.sz + j) (i : Int) j xs.zipIdx (x', i) u seg c _ _ haddr (by rw [Int.toNat_natCast]; rfl) hx hu ht h1 hR (by omega) (by omega) hcl hcc hj (hM _ _ hMc) (fun k hk => hk) hb ?_
  intro w1 hR1 hb1 hg1
  rw [Int.toNat_natCast, zip_set] at hR1
  refine h w1 ⟨hb1, fun k o hk => ⟨(hg1.block k (blk_lt (hk0 k o hk).1) (fun he => ?_)).trans (hk0 k o hk).1, (hk0 k o hk).2⟩, F, fun q r hq => ?_⟩
  · injection he with he
    subst he
    exact not_solid (hk0 _ o hk).1 (hk0 _ o hk).2 (solid_cells hty)
  · rw [List.getElem?_set] at hq
    by_cases e1 : s = q
    · subst e1
      rw [if_pos rfl, if_pos (List.getElem?_eq_some_iff.mp hi).1] at hq
      injection hq with hq
      subst hq
      exact ⟨f, hR1⟩
    · rw [if_neg e1] at hq
      refine r.move (h2 q r hq) (fun k hk hl _ => ⟨hg1.block k hl (fun he => e1 ?_), hk⟩)
      injection he with he
      subst he
      exact (hR.1 _ (by simp [Value.ownBlock])).2.symm.trans hk.2
/-- xs[i].rows[q].f = u: cells of element q of element i's own row are written. 'hin': what the element says of that row, and that it may be told anew. -/
theorem ev_storeI {α β : Type} {d : Kd α} {d2 : Kd β} {e e2 n cap n2 cap2 : Nat} {ad ad2 : Addr} {xs : List α} {ys : List β} (s : Nat) (HO : Own w W L K) (hi : L[s]? = some (.srow d e w.heap.size (.slice (some ad) n cap) xs)) (hN : o.dst = none) (hgd : o.guard = none) (t : TypeId) (p x : Operand) (ho : o.op = .store t p x)
    (i r0 : Nat) (z x' : α) (hin : i < n) (hcell : W.cell? ⟨(ad.add (i * d.sz)).block, (ad.add (i * d.sz)).off + r0, none⟩ = some (.slice (some ad2) n2 cap2))
    (hsay : ∀ ok c, d.M W w.heap.size ok (xs.getD i z) c → ∃ v, c[r0]? = some v ∧ d2.R e2 W w.heap.size ok v ys)
    (q j : Nat) (z2 y' : β) (u : Value) (seg : List Value) (haddr : a.eval p = .pointer (some ⟨(ad2.add (q * d2.sz)).block, (ad2.add (q * d2.sz)).off + j, none⟩)) (hx : a.eval x = u) (hu : u.cells.toList = seg) (ht : (P.info? t).map (·.size) = some seg.length) (h1 : ∀ q ∈ seg, q.oneCell' = true)
    (hqn : q < n2) (hj : j + seg.length ≤ d2.sz) (hM : ∀ ok c, d2.M W w.heap.size ok (ys.getD q z2) c → d2.M W w.heap.size ok y' (c.take j ++ seg ++ c.drop (j + seg.length)))
    (hput : ∀ ok c v W', d.M W w.heap.size ok (xs.getD i z) c → c[r0]? = some v → d2.R e2 W' w.heap.size ok v (ys.set q y') → W.grownBy W' v.ownBlock → d.M W' w.heap.size ok x' c)
    (h : ∀ W', Own w W' (L.set s (.srow d e w.heap.size (.slice (some ad) n cap) (xs.set i x'))) K → wpList P ops Q rest a W') : wpList P ops Q (o :: rest) a W := by
  obtain ⟨hb, hk0, F, h2⟩ := HO
  have hS : Kd.S d e W w.heap.size (fun k => w.heap.size ≤ k ∧ F k = s) (.slice (some ad) n cap) xs := h2 s _ hi
  obtain ⟨oki, c, hcl, hMc, hcc, hoki, hback⟩ := Kd.S_borrow hS z (i : Int) (by omega) (by omega)
  rw [Int.toNat_natCast] at hMc hcc hback
  obtain ⟨v, hv, hR⟩ := hsay oki c hMc
  obtain ⟨g0, rfl⟩ := Kd.R_head (Kd.S_R hS)
  have hveq : v = .slice (some ad2) n2 cap2 := by
    have h3 := hcc r0 v hv
    rw [add_at, Nat.zero_add] at h3
    rw [plain_add] at hcell
    rw [hcell] at h3
    injection h3 with h3
    exact h3.symm
  subst hveq
  obtain ⟨g, rfl⟩ := Kd.R_head hR
  have hn2 := (Kd.R_reads' hR).1
  obtain ⟨c2, hcl2, hMc2, hcc2, -⟩ := Kd.R_elem hR z2 (q : Int) (by omega) (by omega)
  rw [Int.toNat_natCast] at hMc2
  rw [plain_add] at haddr
  obtain ⟨cs0, hty⟩ : ∃ cs, W.heap[g]? = some (.cells cs e2 (0, 0)) := Kd.R_typed hR g (by simp [Value.ownBlock])
  refine Kd.R_store d2 (w0 := w) w.heap.size hN hgd t p x ho e2 (g := g) (o' := q * d2.sz + j) (q : Int) j ys y' u seg c2 _ _ haddr (by rw [Int.toNat_natCast]) hx hu ht h1 hR (by omega) (by omega) hcl2 hcc2 hj (hM _ _ hMc2) (fun k hk => hk) hb ?_
  intro w1 hR1 hb1 hg1
  rw [Int.toNat_natCast] at hR1
  have hvb : (Value.slice (some ⟨g, 0, none⟩) n2 cap2).ownBlock = some g := by simp [Value.ownBlock]
  have hokg : oki g := hR.1 g hvb
  have hS1 := hback (x' := x') hg1 (fun k hk => by injection hk with hk; rw [← hk]; exact hokg) (hput oki c _ w1 hMc hv hR1 (by rw [hvb]; exact hg1))
  refine h w1 ⟨hb1, fun k o hk => ⟨(hg1.block k (blk_lt (hk0 k o hk).1) (fun he => ?_)).trans (hk0 k o hk).1, (hk0 k o hk).2⟩, F, fun q r hq => ?_⟩
  · injection he with he
    subst he
    exact not_solid (hk0 _ o hk).1 (hk0 _ o hk).2 (solid_cells hty)
  · rw [List.getElem?_set] at hq
    by_cases e1 : s = q
    · subst e1
      rw [if_pos rfl, if_pos (List.getElem?_eq_some_iff.mp hi).1] at hq
      injection hq with hq
      subst hq
      exact hS1
    · rw [if_neg e1] at hq
      refine r.move (h2 q r hq) (fun k hk hl _ => ⟨hg1.block k hl (fun he => e1 ?_), hk⟩)
      injection he with he
      subst he
      exact (hoki _ hokg).1.2.symm.trans hk.2
end
end Go.Proofs.Ytnnkbcgoockniaa.Q

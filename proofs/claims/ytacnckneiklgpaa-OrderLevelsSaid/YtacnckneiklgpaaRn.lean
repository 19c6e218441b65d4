/- order.Runs. Printed by genRn.py. -/
import Derived.Test.YtacnckneiklgpaaLv
namespace Go.Proofs.Ytacnckneiklgpaa.Q
open Go.RowKit Go.Proofs.YtacnckneiklgpaaW.PrintWords Go.Proofs.YtacnckneiklgpaaW.PrintLast Go.Proofs.YtacnckneiklgpaaW.PrintMore
set_option linter.unusedSimpArgs false
set_option linter.unusedVariables false
attribute [local go_sem] Oper.semAt_some
section
variable {P : Program} {ops : Array Oper} {Q : Exit → Act → World → Prop} {lp n : Nat}
theorem round_list (hQ : ¬ LetsOut Q) : ∀ (l : List Oper), (l.all (fun o => match o.op with | .defer _ => false | _ => true) = true) → ∀ (a : Act) (w : World), wpList P ops Q l a w → wpListIn (Fence.wide.inRound lp) n P ops Q l a w
  | [], _, a, w, h => h
  | o :: rest, hd, a, w, h => by
    rw [List.all_cons, Bool.and_eq_true] at hd
    have hdo : ∀ c, o.op ≠ .defer c := fun c he => by
      have h1 := hd.1
      rw [he] at h1
      cases h1
    unfold wpList at h
    unfold wpListIn
    split
    · rename_i hw
      rw [if_pos hw] at h
      rcases h with h | h
      · exact round_op hdo (Oper.wp_mono (fun a' w' h' => round_list hQ rest hd.2 a' w' h') h)
      · exact absurd h.2 hQ
    · rename_i hw
      rw [if_neg hw] at h
      exact ⟨fun _ _ => trivial, round_list hQ rest hd.2 _ _ h⟩
theorem round_plain {id : Nat} {a : Act} {w : World} (l : List Oper) (hd : l.all (fun o => match o.op with | .defer _ => false | _ => true) = true) (hQ : ¬ LetsOut Q) (h : wpList P l.toArray Q l a w) : (Code.region id l.toArray false).wpIn (Fence.wide.inRound lp) n P Q a w :=
  wpIn_region_list (round_list hQ l hd a w h)
end
section
variable {P : Program} {ops : Array Oper} {Q : Exit → Act → World → Prop} {o : Oper} {rest : List Oper} {a : Act} {w W : World} {L : List Res} {K : Nat → Obj → Prop}
/-- append of one element. 'hM': the element, told; it leads to nothing of its own. -/
theorem ev_appendG {α : Type} {d : Kd α} {e : Nat} {v : Value} {xs : List α} (i : Nat) (HO : Own w W L K) (hi : L[i]? = some (.row d e w.heap.size v xs)) (hgd : o.guard = none) (s x : Operand) (t : TypeId) (z : Value) (bytes : Nat)
    (ho : o.op = .call { callee := .builtin .append, args := #[s, x], argTypes := #[t, t] })
    (ht : P.underlying t = some (.slice e)) (hinfo : (P.info? e).map (fun i => (i.zero, i.size, i.bytes)) = some (some z, d.sz, bytes)) (hz : z.cells.size = d.sz) (hs0 : 0 < d.sz) (hb0 : 0 < bytes)
    (p : α) (cs : List Value) (hs : a.eval s = v) (hx : a.eval x = .slice (some ⟨W.heap.size, 0, none⟩) 1 1) (hM : d.M W w.heap.size (fun _ => False) p cs) (hl : (xs.length + 1) * bytes ≤ 140737488355328)
    (h : ∀ A c W', Own w W' (L.set i (.row d e w.heap.size (.slice A (xs.length + 1) c) (xs ++ [p]))) K → W.grownBy W' v.ownBlock → ((Value.slice A (xs.length + 1) c).ownBlock = v.ownBlock ∨ ∃ b, (Value.slice A (xs.length + 1) c).ownBlock = some b ∧ W.heap.size ≤ b) → wpList P ops Q rest (a.put o.dst (.slice A (xs.length + 1) c)) W') : wpList P ops Q (o :: rest) a (W.alloc (.cells cs.toArray e)) := by
  obtain ⟨h1, hk0, F, h2⟩ := HO
  have hle := h1.size
  have hR : d.R e W w.heap.size (fun k => w.heap.size ≤ k ∧ (k < W.heap.size → F k = i)) v xs := Kd.R_mono (Kd.R_bound (h2 i _ hi)) (fun k hk => ⟨hk.1.1, fun _ => hk.1.2⟩)
  refine Kd.R_append d (w0 := w) w.heap.size hgd s x t e z bytes ho ht hinfo hz hs0 hb0 v xs p cs _ (fun _ => False) hs hx hM (fun _ hk => hk.elim) (fun k hk => ⟨by omega, fun hl => by omega⟩) hR h1 hle hl ?_
  intro v1 w1 hR1 hb1 hg1 hat
  obtain ⟨A, c, rfl⟩ := Kd.R_slice hR1
  rw [List.length_append, List.length_singleton] at hR1 hat ⊢
  have hSol : ∀ k, some k = v.ownBlock → Solid W k := fun k he => by obtain ⟨_, inner, ho2, _⟩ := hR; obtain ⟨cs2, hc2⟩ := own_typed ho2 k he.symm; exact solid_cells hc2
  refine h A c w1 ?_ hg1 hat
  refine ⟨hb1, fun k o hk => ⟨(hg1.block k (blk_lt (hk0 k o hk).1) (fun he => not_solid (hk0 k o hk).1 (hk0 k o hk).2 (hSol k he))).trans (hk0 k o hk).1, (hk0 k o hk).2⟩, fun k => if k < W.heap.size then F k else i, fun j q hj => ?_⟩
  have hil : i < L.length := (List.getElem?_eq_some_iff.mp hi).1
  rw [List.getElem?_set] at hj
  by_cases e1 : i = j
  · subst e1
    rw [if_pos rfl, if_pos hil] at hj
    injection hj with hj
    subst hj
    refine Kd.R_mono hR1 (fun k hk => ⟨hk.1, ?_⟩)
    dsimp only
    split
    · rename_i hlt; exact hk.2 hlt
    · rfl
  · rw [if_neg e1] at hj
    refine q.move (h2 j q hj) (fun k hk hl _ => ⟨hg1.block k hl (fun he => e1 ?_), hk.1, by dsimp only; rw [if_pos hl]; exact hk.2⟩)
    exact ((h2 i _ hi).1 k he.symm).2.symm.trans hk.2
end
def runsL (l : List Int) : List S44 := (pcs (fun x => x) 0 l).map (fun p => ⟨(p.1 : Int), (p.2.1 : Int), p.2.2⟩)
def runsO (s : ByteArray) : Option (List S44) := (levelsO s).bind fun l => if l.length ≤ 1000000 then some (runsL l) else none
theorem pcs_len {β : Type} [DecidableEq β] (f : Int → β) : ∀ (l : List Int) (off : Nat), (pcs f off l).length ≤ l.length
  | [], _ => Nat.le_refl _
  | a :: r, off => by
    have ih := pcs_len f r (off + 1)
    simp only [pcs, List.length_cons]
    split
    · simp
    · rename_i p ps hp
      rw [hp, List.length_cons] at ih
      split <;> simp only [List.length_cons] <;> omega
theorem hinfo44 : (Try.prog.info? 44).map (fun i => (i.zero, i.size, i.bytes)) = some (some (.agg #[.int .i64 0, .int .i64 0, .int .i64 0]), 3, 24) := by kernel_rfl
theorem sz29 : (Try.prog.info? 29).map (·.size) = some 1 := by kernel_rfl
set_option maxRecDepth 100000 in
set_option maxHeartbeats 8000000 in
theorem runs_calls (s : ByteArray) (r : List S44) (w : World) (h : runsO s = some r) :
    Calls Try.prog 17 #[.string s] w fun e w' => ∃ v, e = .returned v ∧ Kd.R k44 44 w' w.heap.size (fun _ => True) v r ∧ Below w.heap.size w w' := by
  obtain ⟨l, hl, h2⟩ := Option.bind_eq_some_iff.mp h
  split at h2
  case isFalse => cases h2
  rename_i hN6
  obtain rfl := Option.some.inj h2
  obtain ⟨N, hN⟩ : ∃ N, l.length = N := ⟨_, rfl⟩
  rw [hN] at hN6
  have HLV := Aside0.mk hl
  have HN := Aside0.mk hN
  have HN6 := Aside0.mk hN6
  have HO := Own.start w
  clear h hl h2 hN hN6
  refine (callsIn_wide (n := 6)).1 ?_
  refine callsIn_of_wp_marks Try.func17 rfl trivial ?_ rfl
  simp only [Try.ntmps17, List.size_toArray, List.length_cons, List.length_nil, Nat.reduceAdd, Nat.reduceSub, Array.replicate_succ, Array.replicate_zero, List.push_toArray, List.append_toArray, List.nil_append, List.cons_append]
  refine wpIn_wide.2 ?_
  go_wp2_with (first
    | ((with_reducible refine gate_dst (N := 3) rfl ?_); refine ev_box (N := 3) (cs := #[.slice none 0 0]) (t := 29) HO rfl rfl ?hr ?_; (case hr => first | (go_simp; done) | (go_simp; rfl)); intro go W1 HO1 hb1; clear HO hb1)
    | (go_at_call 14; (with_reducible refine (levels_calls s l _ HLV.out).mono ?_); rintro e wr ⟨v2, rfl, hR2, hb2⟩; have HO2 := HO1.called hb2 hR2; clear HO1 hR2 hb2; obtain ⟨A, c, he2, hl2, hC2⟩ := HO2.row_at 1 rfl; rw [HN.out] at he2 hl2; subst he2)
    | (go_at_call 34; (with_reducible refine (piecesI_calls A N c 35 _ _).mono ?_); rintro e W7 ⟨rfl, hw7⟩; have HW7 := Aside0.mk hw7; clear hw7))
  have HO6 := (HO2.alloc (.cells #[.slice A N c] 26)).alloc (.cells #[.func (.func 35) #[] #[]] 31)
  have hw5 := HW7.out
  have hg1 := World.alloc_heap_new wr (.cells #[.slice A N c] 26)
  have hg1 := (Below.heap_alloc _ (.cells #[.func (.func 35) #[] #[]] 31) _ (blk_lt hg1)).trans hg1
  have hg2 := World.alloc_heap_new (wr.alloc (.cells #[.slice A N c] 26)) (.cells #[.func (.func 35) #[] #[]] 31)
  rw [World.size_alloc] at hg2
  rw [← hw5] at HO6 hg1 hg2
  have hsz : W7.heap.size = wr.heap.size + 2 := by rw [hw5]; simp
  have hle5 := HO6.le
  obtain ⟨S, hSd⟩ : ∃ S : Nat → Prop, S = fun k => k = wr.heap.size ∨ k = wr.heap.size + 1 ∨ (Value.slice A N c).ownBlock = some k := ⟨_, rfl⟩
  have hSS : ∀ k, S k ↔ k = wr.heap.size ∨ k = wr.heap.size + 1 ∨ (Value.slice A N c).ownBlock = some k := fun k => by rw [hSd]
  have hS : ∀ k, S k → k < W7.heap.size := fun k h => by
    rcases (hSS k).mp h with h | h | h
    · omega
    · omega
    · exact (HO6.row_block 1 rfl k h).2
  have hE : ∀ W, KeepS S W7 W → W.cell? ⟨wr.heap.size, 0, none⟩ = some (.slice A l.length c) ∧ W.cell? ⟨wr.heap.size + 1, 0, none⟩ = some (.func (.func 35) #[] #[]) ∧ (Kd.int .i64).C W A l.length l ∧ ∀ x ∈ l, Calls Try.prog 35 (#[.int .i64 x] ++ #[]) W fun e w' => e = .returned (Value.int .i64 ((fun x => x) x)) ∧ Below W.heap.size W w' := fun W hk => by
    refine ⟨by rw [HN.out]; exact (blk_cell ((hk.2 _ ((hSS _).mpr (.inl rfl))).trans hg1) 0).trans rfl, (blk_cell ((hk.2 _ ((hSS _).mpr (.inr (.inl rfl)))).trans hg2) 0).trans rfl, intC_keep (HO6.row_sl 1 rfl).2.2 (fun ad hn hA => ?_), fun x hx => ?_⟩
    · subst hA
      obtain ⟨g', rfl⟩ := HO6.row_head 1 rfl
      exact hk.2 g' ((hSS _).mpr (.inr (.inr (by simp [Value.ownBlock]))))
    · exact (order_Runs_1.calls x x W rfl).mono (fun e w' h => ⟨h.1, h.2.below⟩)
  have hst := piecesI_stops 5 wr.heap.size (wr.heap.size + 1) 35 #[] A c l (fun x => x) S W7 hS (enters_ (P := Try.prog) Try.func35 (by kernel_rfl) rfl) hE
  have HLE5 := Aside0.mk hle5
  have HSG := Aside0.mk (show ∀ k, S k → k ≠ go from fun k h => by
    rcases (hSS k).mp h with h | h | h
    · have := blk_lt (HO2.box_at 0 rfl).1; omega
    · have := blk_lt (HO2.box_at 0 rfl).1; omega
    · exact fun e => HO2.box_row 0 1 (by decide) rfl rfl k h e.symm)
  have HO7 := (HO6.upto 1).newrow k44 44
  have HGO := Aside0.mk (show go < W7.heap.size from blk_lt (HO6.box_at 0 rfl).1)
  clear hw5 hg1 hg2 hsz hE HO2 HO6 hle5 hSd HW7 hl2 hC2
  refine (wpIn_wide (n := 6)).1 ?_
  refine wpIn_rangeFunc_ownH rfl (by decide) (gf := 49) (lb := #[.pointer (some ⟨wr.heap.size, 0, none⟩), .pointer (some ⟨wr.heap.size + 1, 0, none⟩)]) rfl trivial (enters_ (P := Try.prog) Try.func49 (by kernel_rfl) rfl) hst (fun h k => KeepS.trans h k) (fun W l o o' hl ho _ _ => keepS_b hS W l o o' hl ho) (Below.refl _ _) (fun _ => rfl)
    (fun pre W => W7.heap.size ≤ W.heap.size ∧ ∃ (A3 : Option Addr) (c3 : Nat), (∀ k, (Value.slice A3 pre.length c3).ownBlock = some k → W7.heap.size ≤ k) ∧ Own w W [.box go 29 #[.slice A3 pre.length c3], .row k44 44 w.heap.size (.slice A3 pre.length c3) ((pre.map (·.1)).map (fun p => (⟨(p.1 : Int), (p.2.1 : Int), p.2.2⟩ : S44)))])
    (fun cd pre W => False)
    ?hI ?hIx ⟨Nat.le_refl _, none, 0, fun k hk => (by simp [Value.ownBlock] at hk), HO7⟩
    (fun x a' W => ∃ g9 : Nat, a' = { tmps := #[.string s, undef, .slice none 0 0, .pointer (some ⟨go, 0, none⟩), .pointer (some ⟨g9, 0, none⟩), .int .i64 x.1.2.2, .string s, .slice A N c, .func (.func 49) #[] #[.pointer (some ⟨wr.heap.size, 0, none⟩), .pointer (some ⟨wr.heap.size + 1, 0, none⟩)], .agg #[.int .i64 x.1.1, .int .i64 x.1.2.1], .int .i64 x.1.2.2, undef, undef, undef, undef, undef, undef, undef, undef, undef, undef], defers := [] } ∧ W.heap[g9]? = some (.cells #[.int .i64 x.1.1, .int .i64 x.1.2.1] 51 (0, 0)))
    ?hAx ?assign ?body ?done ?stop
  case hI =>
    rintro pre A' B' row ⟨h1, A3, c3, h3, h2⟩ hg hr
    exact ⟨Nat.le_trans h1 hg.size, A3, c3, h3, h2.other hg (fun r e => ⟨by have := (hr r e).1; have := HLE5.out; omega, fun o ho => ho, (hr r e).2⟩)⟩
  case hIx =>
    rintro cd pre A' B' row h1 hg hr
    exact h1
  case hAx =>
    rintro x a' _ A' B' row ⟨g9, h1, h2⟩ hg hr
    exact ⟨g9, h1, (hg.block g9 (blk_lt h2) (fun e => by obtain ⟨o, ho, hc⟩ := (hr g9 e.symm).2; rw [h2] at ho; cases ho; cases hc)).trans h2⟩
  case assign =>
    rintro lp pre x W K2 ⟨hi1, A3, c3, hi3, hi2⟩ hK2
    unfold encPI
    gi_wp2
    exact hK2 _ _ ((KeepsOthers.alloc _ _).from _) ⟨(below_alloc (Below.refl W.heap.size W) _).size, fun k hk => (below_alloc (Below.refl W.heap.size W) _).block k (Nat.lt_of_lt_of_le (hS k hk) hi1)⟩ ⟨by rw [World.size_alloc]; omega, A3, c3, hi3, hi2.alloc _⟩ ⟨W.heap.size, rfl, World.alloc_heap_new W _⟩
  case body =>
    rintro lp pre x a' W hl hrr ⟨hsW, A3, c3, h3, HOb⟩ ⟨g9, rfl, hg9⟩ hlt
    have b0 := HOb.box_cell 0 rfl 0 rfl
    have v1 : W.cell? ⟨g9, 0, none⟩ = some (.int .i64 x.1.1) := (blk_cell hg9 0).trans rfl
    have v2 : W.cell? ⟨g9, 1, none⟩ = some (.int .i64 x.1.2.1) := (blk_cell hg9 1).trans rfl
    have hln := (HOb.row_sl 1 rfl).1
    obtain ⟨rs, hrs⟩ : ∃ rs, (pre.map (·.1)).map (fun p => (⟨(p.1 : Int), (p.2.1 : Int), p.2.2⟩ : S44)) = rs := ⟨_, rfl⟩
    have HRS := Aside0.mk (show ((pre ++ [x]).map (·.1)).map (fun p => (⟨(p.1 : Int), (p.2.1 : Int), p.2.2⟩ : S44)) = rs ++ [⟨x.1.1, x.1.2.1, x.1.2.2⟩] by rw [List.map_append, List.map_append, hrs]; rfl)
    rw [hrs] at HOb hln
    have HLEN := Aside0.mk (show rs.length = pre.length ∧ (pre ++ [x]).length = pre.length + 1 from ⟨hln.symm, by simp⟩)
    have HSW := Aside0.mk hsW
    have H3 := Aside0.mk h3
    have HPB := Aside0.mk (show pre.length ≤ N by have h := hlt; have := pcs_len (fun x : Int => x) l 0; rw [HN.out] at this; omega)
    have HOK := Aside0.mk (HOb.keep (K' := fun k o => W.heap[k]? = some o ∧ o.isCells = false) (fun _ _ h => h))
    clear hrs hln hsW hg9 h3
    refine wpIn_block ?_
    refine round_plain _ (by rfl) (by rintro ⟨_, _, h⟩; exact h) ?_
    go_wp2_with (first
      | ((with_reducible refine gate_builtin (b := .append) (xs := #[.tmp 11, .tmp 18]) rfl ?_); at_builtin; refine ev_appendG 1 HOK.out rfl rfl (.tmp 11) (.tmp 18) 29 (.agg #[.int .i64 0, .int .i64 0, .int .i64 0]) 24 rfl Try.underlying29 hinfo44 rfl (by decide) (by decide) (⟨x.1.1, x.1.2.1, x.1.2.2⟩ : S44) [.int .i64 x.1.1, .int .i64 x.1.2.1, .int .i64 x.1.2.2] rfl rfl (k44_mkM _ _ _ _) (by have := HLEN.out; have := HPB.out; have := HN6.out; omega) ?_; intro A5 c5 W5 HO5 hgr hat; have HGR := Aside0.mk hgr; have HAT := Aside0.mk hat; clear hgr hat b0 v1 v2; have b5 := HO5.box_cell 0 rfl 0 rfl; have f5 := HO5.box_free 0 rfl 0))
    have HO6 := HO5.put 0 rfl 0 (.slice A5 (rs.length + 1) c5) (Nat.succ_pos 0) rfl
    have hgo : ∀ k, S k → some k ≠ (Value.slice A3 pre.length c3).ownBlock := fun k hk e => by have := H3.out k e.symm; have := hS k hk; omega
    have hk5 : ∀ k, S k → (W5.setCell ⟨go, 0, none⟩ (.slice A5 (rs.length + 1) c5)).heap[k]? = W.heap[k]? := fun k hk => (Below.heap_setCell _ _ _ k (HSG.out k hk)).trans (HGR.out.block k (Nat.lt_of_lt_of_le (hS k hk) HSW.out) (hgo k hk))
    have hsz5 : W.heap.size ≤ (W5.setCell ⟨go, 0, none⟩ (.slice A5 (rs.length + 1) c5)).heap.size := Nat.le_trans HGR.out.size (by simp [World.setCell])
    refine ⟨⟨hsz5, fun j o _ h1 h2 => (HO6.keeps j o ⟨h1, h2⟩).1⟩, ⟨hsz5, hk5⟩, Nat.le_trans HSW.out hsz5, A5, c5, ?_, ?_⟩
    · intro k hk
      rw [HLEN.out.2, ← HLEN.out.1] at hk
      rcases HAT.out with h | ⟨bq, h, hge⟩
      · exact H3.out k (h.symm.trans hk)
      · rw [h] at hk
        injection hk with hk
        have := HSW.out
        omega
    · rw [← List.map_map, HRS.out, HLEN.out.2, ← HLEN.out.1]
      exact HO6.keep (fun _ _ h => h.elim)
  case done =>
    rintro D ys W hD hS2 ⟨hsW, A3, c3, -, HOd⟩ hDk
    rw [hS2] at HOd
    have HDN := Aside0.mk (show [D].Nodup ∧ ∀ D' ∈ [D], w.heap.size ≤ D' from ⟨by simp, fun D' h' => by rw [List.mem_singleton.mp h']; have := HLE5.out; omega⟩)
    have HO4 := HOd.keep (K' := keptD [D]) (fun j o h1 => by
      obtain ⟨h1, rfl⟩ := h1
      rw [List.mem_singleton.mp h1]
      exact ⟨hDk, rfl⟩)
    have b0 := HO4.box_cell 0 rfl 0 rfl
    clear HOd hDk hst hD hS2
    go_wp2
    exact leaves_marks (fun W' HW => ⟨_, results_tmp rfl _ _ _, _, rfl, HW.row_R 1 rfl, HW.below⟩) [D] _ HO4 HDN.out.1 HDN.out.2
  case stop =>
    rintro D cd pre W hD hSp h
    exact h.elim
end Go.Proofs.Ytacnckneiklgpaa.Q

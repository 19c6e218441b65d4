/- order.Visual. Printed by genVs.py. -/
import Derived.Test.YtacnckneiklgpaaMk
import Derived.Test.YtacnckneiklgpaaQx5
import Derived.Deep.LoopGhost
namespace Go.Proofs.Ytacnckneiklgpaa.Q
open Go.RowKit Go.Proofs.YtacnckneiklgpaaW.PrintWords Go.Proofs.YtacnckneiklgpaaW.PrintLast Go.Proofs.YtacnckneiklgpaaW.PrintMore
set_option linter.unusedSimpArgs false
set_option linter.unusedVariables false
attribute [local go_sem] Oper.semAt_some

def geP (levels : List Int) (m : Int) (x : Int) : Bool := decide (rd levels x ≥ m)
def revP (o : List Int) (p : Nat × Nat × Bool) : List Int := if p.2.2 = true then revR o p.1 p.2.1 else o
def visStep (levels : List Int) (m : Nat) (out : List Int) : List Int := (pcs (geP levels (m : Int)) 0 out).foldl revP out
/-- The elements of a line, when the levels from 9 down to 10 - k have been turned. -/
def visN (levels : List Int) : Nat → List Int
  | 0 => (List.range levels.length).map (fun (i : Nat) => (i : Int))
  | k + 1 => visStep levels (9 - k) (visN levels k)
def visF (levels : List Int) : List Int := visN levels 9
theorem revR_mem {xs : List Int} {a b : Nat} {x : Int} (h : x ∈ revR xs a b) : x ∈ xs := by
  unfold revR at h
  rcases List.mem_append.mp h with h | h
  · rcases List.mem_append.mp h with h | h
    · exact List.mem_of_mem_take h
    · exact List.mem_of_mem_take (List.mem_of_mem_drop (List.mem_reverse.mp h))
  · exact List.mem_of_mem_drop h
theorem revP_ok {N : Nat} : ∀ (ps : List (Nat × Nat × Bool)) (o : List Int), (∀ p ∈ ps, p.1 < p.2.1 ∧ p.2.1 ≤ N) → o.length = N → (∀ x ∈ o, 0 ≤ x ∧ x < (N : Int)) → (ps.foldl revP o).length = N ∧ ∀ x ∈ ps.foldl revP o, 0 ≤ x ∧ x < (N : Int)
  | [], o, _, h1, h2 => ⟨h1, h2⟩
  | p :: ps, o, hp, h1, h2 => by
    have hb := hp p List.mem_cons_self
    refine revP_ok ps (revP o p) (fun q hq => hp q (List.mem_cons_of_mem _ hq)) ?_ ?_
    · unfold revP
      split
      · rw [revR_length o p.1 p.2.1 (by omega) (by omega)]; exact h1
      · exact h1
    · intro x hx
      unfold revP at hx
      split at hx
      · exact h2 x (revR_mem hx)
      · exact h2 x hx
theorem visN_ok (levels : List Int) : ∀ k, (visN levels k).length = levels.length ∧ ∀ x ∈ visN levels k, 0 ≤ x ∧ x < (levels.length : Int)
  | 0 => by
    refine ⟨by simp [visN], fun x hx => ?_⟩
    simp only [visN, List.mem_map, List.mem_range] at hx
    obtain ⟨i, hi, rfl⟩ := hx
    omega
  | k + 1 => by
    obtain ⟨h1, h2⟩ := visN_ok levels k
    refine revP_ok _ _ (fun p hp => ?_) h1 h2
    have := pcs_mem _ _ _ p hp
    omega
theorem clone_n {n : Nat} (A : Option Addr) (c : Nat) (l : List Int) (w : World) (hn : l.length = n) (hr : (Kd.int .i64).C w A l.length l) (hc : n ≤ c) (hl : n ≤ 1000000) :
    Calls Try.prog 38 #[.slice A n c] w fun e w' => ∃ v, e = .returned v ∧ Kd.R (Kd.int .i64) 3 w' w.heap.size (fun _ => True) v l ∧ Below w.heap.size w w' := by
  subst hn
  exact clone_calls A c l w hr hc hl
theorem sz3 : (Try.prog.info? 3).map (·.size) = some 1 := by kernel_rfl
theorem sz26 : (Try.prog.info? 26).map (·.size) = some 1 := by kernel_rfl
set_option maxRecDepth 100000 in
set_option maxHeartbeats 8000000 in
theorem visual_calls (A : Option Addr) (c : Nat) (l : List Int) (w : World) (hr : (Kd.int .i64).C w A l.length l) (hc : l.length ≤ c) (hl : l.length ≤ 1000000) :
    Calls Try.prog 24 #[.slice A l.length c] w fun e w' => ∃ v, e = .returned v ∧ Kd.R (Kd.int .i64) 3 w' w.heap.size (fun _ => True) v (visF l) ∧ Below w.heap.size w w' := by
  have HR := Aside0.mk hr
  have HC := Aside0.mk hc
  have HL := Aside0.mk hl
  have hl9 : (l.length : Int) ≤ 1000000 := by omega
  have hl0 : (0 : Int) ≤ (l.length : Int) := by omega
  have HO := Own.start w
  clear hr hc hl
  refine (callsIn_wide (n := 6)).1 ?_
  refine callsIn_of_wp_marks Try.func24 rfl trivial ?_ rfl
  simp only [Try.ntmps24, List.size_toArray, List.length_cons, List.length_nil, Nat.reduceAdd, Nat.reduceSub, Array.replicate_succ, Array.replicate_zero, List.push_toArray, List.append_toArray, List.nil_append, List.cons_append]
  refine wpIn_wide.2 ?_
  obtain ⟨N, hN⟩ : ∃ N, l.length = N := ⟨_, rfl⟩
  rw [hN] at hl9 hl0 ⊢
  have HN := Aside0.mk hN
  clear hN
  go_wp2_with (first
    | ((with_reducible refine gate_dst (N := 1) rfl ?_); refine ev_box (N := 1) (cs := #[.slice A N c]) (t := 26) HO rfl rfl ?hr ?_; (case hr => first | (go_simp; done) | (go_simp; rfl)); intro gl W1 HO1 hb1; clear HO hb1; have x0 := HO1.box_cell 0 rfl 0 rfl)
    | ((with_reducible refine gate_dst (N := 10) rfl ?_); refine ev_make (Kd.int .i64) 3 (N := 10) HO1 rfl rfl 26 (.tmp 9) (.tmp 9) rfl (N : Int) rfl rfl Try.underlying26 (.int .i64 0) 8 hinfo3 rfl (Nat.succ_pos 0) (by decide) 0 rfl hl0 (by omega) ?_; rw [Int.toNat_natCast]; intro Ao co W2 HO2 hb2; clear HO1 hb2 x0)
    | ((with_reducible refine gate_dst (N := 3) rfl ?_); refine ev_box (N := 3) (cs := #[.slice none 0 0]) (t := 26) HO2 rfl rfl ?hr ?_; (case hr => first | (go_simp; done) | (go_simp; rfl)); intro go W3 HO3 hb3; clear HO2 hb3)
    | ((with_reducible refine gate_store (t := 26) (p := 3) rfl ?_); refine ev_store (cs' := #[.slice Ao N co]) (.slice Ao N co) 2 HO3 rfl rfl rfl rfl 0 rfl rfl sz26 (by simp [Value.oneCell', Value.cells]) (Nat.le_refl _) rfl ?_; intro W4 HO4; clear HO3; have x0 := HO4.box_cell 2 rfl 0 rfl))
  clear x0
  go_loopw [13] (fun v13 w' => ∃ (k : Nat) (xs : List Int), v13 = .int .i64 k ∧ Aside0 (k ≤ N) ∧ Aside0 (xs = (List.range k).map (fun (i : Nat) => (i : Int)) ++ List.replicate (N - k) 0) ∧ Aside0 (Own w w' [.box gl 26 #[.slice A N c], .row (Kd.int .i64) 3 w.heap.size (.slice Ao N co) xs, .box go 26 #[.slice Ao N co]])) (fun v13 _ => N - (intOf v13).toNat)
  case atStart => exact ⟨0, _, rfl, ⟨Nat.zero_le _⟩, ⟨by simp⟩, ⟨HO4⟩⟩
  case round =>
    clear HO4
    obtain ⟨k, xs, rfl, HK, HXS, HOO⟩ := hrel
    have HO := HOO.out
    clear HOO
    by_cases hlt : k < N
    case pos =>
      obtain ⟨g, hg⟩ : ∃ g, Ao = some ⟨g, 0, none⟩ := by
        obtain ⟨ad, hA, -⟩ := (HO.row_sl 1 rfl).2.2.2.2 (by rw [HXS.out, List.length_append, List.length_map, List.length_range, List.length_replicate]; omega)
        subst hA
        obtain ⟨g, rfl⟩ := HO.row_head 1 rfl
        exact ⟨g, rfl⟩
      subst hg
      obtain ⟨x1, f1⟩ := HO.int_cell 1 rfl k hlt
      have x0 := HO.box_cell 2 rfl 0 rfl
      have q1 : ((k : Int) < (N : Int)) = True := eq_true (by omega)
      have pk : (0 ≤ (k : Int)) = True := eq_true (by omega)
      have hkb : (k : Int) + 1 ≤ 1000001 := by omega
      have HKL := Aside0.mk hlt
      have HXN := Aside0.mk (show xs.set k (k : Int) = (List.range (k + 1)).map (fun (i : Nat) => (i : Int)) ++ List.replicate (N - (k + 1)) 0 by
        rw [HXS.out, show N - k = (N - (k + 1)) + 1 by omega, List.replicate_succ, List.set_append_right _ _ (by simp), List.range_succ, List.map_append, List.append_assoc]
        simp)
      clear hlt
      go_wp2
      have HO2 := HO.intput 1 rfl k (k : Int)
      go_roundw
      case rel => exact ⟨k + 1, _, by go_num, ⟨HKL.out⟩, HXN, ⟨HO2⟩⟩
      case measure => have := HKL.out; simp [intOf]; omega
    have hkN : k = N := by have := HK.out; omega
    have q1 : ¬ ((k : Int) < (N : Int)) := by omega
    have HXE := Aside0.mk (show xs = visN l 0 by rw [HXS.out, hkN, Nat.sub_self, List.replicate_zero, List.append_nil, visN, HN.out])
    clear hlt hkN
    go_wp2_with (first
      | ((with_reducible refine gate_dst (N := 5) rfl ?_); refine ev_box (N := 5) (cs := #[.int .i64 0]) (t := 3) HO rfl rfl ?hr ?_; (case hr => first | (go_simp; done) | (go_simp; rfl)); intro g5 W5 HO5 hb5; clear HO hb5)
      | ((with_reducible refine gate_store (t := 3) (p := 5) rfl ?_); refine ev_store (cs' := #[.int .i64 9]) (.int .i64 9) 3 HO5 rfl rfl rfl rfl 0 rfl rfl sz3 (by simp [Value.oneCell', Value.cells]) (Nat.le_refl _) rfl ?_; intro W6 HO6; clear HO5; have x5 := HO6.box_cell 3 rfl 0 rfl))
    clear x5
    refine wp_loop_ghost_k (fun gk a' wr => ∃ (k g5 : Nat) (out : List Int) (Ds : List Nat) (u0 u4 u6 u7 u8 u9 u10 u11 u12 u13 u14 u15 u16 u17 u18 u19 u20 u21 u22 u23 u24 u25 u26 u27 u28 u29 u30 u31 u32 u33 u34 u35 u36 u37 u38 u39 u40 : Value), a' = { tmps := #[u0, .pointer (some ⟨gl, 0, none⟩), .slice none 0 0, .pointer (some ⟨go, 0, none⟩), u4, .pointer (some ⟨g5, 0, none⟩), u6, u7, u8, u9, u10, u11, u12, u13, u14, u15, u16, u17, u18, u19, u20, u21, u22, u23, u24, u25, u26, u27, u28, u29, u30, u31, u32, u33, u34, u35, u36, u37, u38, u39, u40], defers := Ds.map markD } ∧ Aside0 (k ≤ 9) ∧ Aside0 (gk = 9 - k) ∧ Aside0 (out = visN l k) ∧ Aside0 (Own w wr [.box gl 26 #[.slice A N c], .row (Kd.int .i64) 3 w.heap.size (.slice Ao N co) out, .box go 26 #[.slice Ao N co], .box g5 3 #[.int .i64 ((9 : Int) - k)]] (keptD Ds)) ∧ Aside0 (Ds.Nodup ∧ ∀ D ∈ Ds, w.heap.size ≤ D)) 9 ?_ ?_
    · exact ⟨0, g5, xs, [], _, _, _, _, _, _, _, _, _, _, _, _, _, _, _, _, _, _, _, _, _, _, _, _, _, _, _, _, _, _, _, _, _, _, _, _, _, rfl, ⟨Nat.zero_le _⟩, ⟨rfl⟩, HXE, ⟨HO6.keep (fun k o hk => by simp [keptD] at hk)⟩, ⟨List.nodup_nil, by simp⟩⟩
    · clear HO6
      rintro gk a' wr ⟨k, g5, out, Ds, u0, u4, u6, u7, u8, u9, u10, u11, u12, u13, u14, u15, u16, u17, u18, u19, u20, u21, u22, u23, u24, u25, u26, u27, u28, u29, u30, u31, u32, u33, u34, u35, u36, u37, u38, u39, u40, rfl, HK, HG, HOUT, HOO, HDS⟩ J K hJ hK
      have HJ := Aside0.mk hJ
      have HKK := Aside0.mk hK
      have HO := HOO.out
      clear hJ hK HOO
      have HOK := Aside0.mk (visN_ok l k)
      rw [← HOUT.out, HN.out] at HOK
      have b5 := HO.box_cell 3 rfl 0 rfl
      have b2 := HO.box_cell 2 rfl 0 rfl
      have hk9 : (k : Int) ≤ 9 := by have := HK.out; omega
      have hk0 : (0 : Int) ≤ (k : Int) := by omega
      by_cases hlt : k < 9
      case neg =>
        have hk : k = 9 := by have := HK.out; omega
        subst hk
        have HV := Aside0.mk (show out = visF l from HOUT.out)
        clear hlt hk9 hk0
        go_wp2
        refine leaves_marks (fun W' HW => ⟨_, results_tmp rfl _ _ _, _, rfl, ?_, HW.below⟩) Ds wr HO HDS.out.1 HDS.out.2
        have h3 := HW.row_R 1 rfl
        rw [HV.out] at h3
        exact h3
      obtain ⟨m, hm⟩ : ∃ m : Nat, 9 - k = m := ⟨_, rfl⟩
      have hmi : (9 : Int) - k = (m : Int) := by omega
      rw [hmi] at b5 HO
      have HM := Aside0.mk (show m + k = 9 ∧ 1 ≤ m by omega)
      have hm1 : ((m : Int) > 0) = True := eq_true (by omega)
      have hm9 : (m : Int) ≤ 9 := by omega
      have hm0 : (0 < m) = True := eq_true (by omega)
      have HSTEP := Aside0.mk (show visN l (k + 1) = (pcs (geP l (m : Int)) 0 out).foldl revP out by rw [visN, visStep, hm, ← HOUT.out])
      have hCo := (HO.row_sl 1 rfl).2.2
      have hco := (HO.row_sl 1 rfl).2.1
      clear hlt hm hmi hk9 hk0
      go_wp2_with (first
        | (go_at_call 38; (with_reducible refine (clone_n Ao co out _ HOK.out.1 hCo hco (by omega)).mono ?_); rintro e W2 ⟨v2, rfl, hR2, hb2⟩; have HO2 := HO.called hb2 hR2; clear HO hR2 hb2 hCo hco b2 b5; obtain ⟨A2, c2, he2, hl2, hC2⟩ := HO2.row_at 4 rfl; rw [HOK.out.1] at he2 hl2; subst he2)
        | (go_at_call 37; (with_reducible refine (piecesB_calls A2 N c2 39 _ _).mono ?_); rintro e W5 ⟨rfl, hw5⟩; have HW5 := Aside0.mk hw5; clear hw5))
      have HO6 := (HO2.alloc (.cells #[.slice A2 N c2] 26)).alloc (.cells #[.func (.func 39) #[] #[.pointer (some ⟨gl, 0, none⟩), .pointer (some ⟨g5, 0, none⟩)]] 56)
      have hw5 := HW5.out
      have hg1 := World.alloc_heap_new W2 (.cells #[.slice A2 N c2] 26)
      have hg1 := (Below.heap_alloc _ (.cells #[.func (.func 39) #[] #[.pointer (some ⟨gl, 0, none⟩), .pointer (some ⟨g5, 0, none⟩)]] 56) _ (blk_lt hg1)).trans hg1
      have hg2 := World.alloc_heap_new (W2.alloc (.cells #[.slice A2 N c2] 26)) (.cells #[.func (.func 39) #[] #[.pointer (some ⟨gl, 0, none⟩), .pointer (some ⟨g5, 0, none⟩)]] 56)
      rw [World.size_alloc] at hg2
      rw [← hw5] at HO6 hg1 hg2
      have hsz : W5.heap.size = W2.heap.size + 2 := by rw [hw5]; simp
      have hle5 := HO6.le
      obtain ⟨S, hSd⟩ : ∃ S : Nat → Prop, S = fun k => k < W5.heap.size ∧ (Value.slice Ao N co).ownBlock ≠ some k := ⟨_, rfl⟩
      have hSS : ∀ k, S k ↔ k < W5.heap.size ∧ (Value.slice Ao N co).ownBlock ≠ some k := fun k => by rw [hSd]
      have hS : ∀ k, S k → k < W5.heap.size := fun k h => ((hSS k).mp h).1
      have s1 : S W2.heap.size := (hSS _).mpr ⟨by omega, fun h => by have := (HO2.row_block 1 rfl _ h).2; omega⟩
      have s2 : S (W2.heap.size + 1) := (hSS _).mpr ⟨by omega, fun h => by have := (HO2.row_block 1 rfl _ h).2; omega⟩
      have s3 : S gl := (hSS _).mpr ⟨blk_lt (HO6.box_at 0 rfl).1, fun h => HO6.box_row 0 1 (by decide) rfl rfl _ h rfl⟩
      have s4 : S g5 := (hSS _).mpr ⟨blk_lt (HO6.box_at 3 rfl).1, fun h => HO6.box_row 3 1 (by decide) rfl rfl _ h rfl⟩
      have hE : ∀ W, KeepS S W5 W → W.cell? ⟨W2.heap.size, 0, none⟩ = some (.slice A2 out.length c2) ∧ W.cell? ⟨W2.heap.size + 1, 0, none⟩ = some (.func (.func 39) #[] #[.pointer (some ⟨gl, 0, none⟩), .pointer (some ⟨g5, 0, none⟩)]) ∧ (Kd.int .i64).C W A2 out.length out ∧ ∀ x ∈ out, Calls Try.prog 39 (#[.int .i64 x] ++ #[.pointer (some ⟨gl, 0, none⟩), .pointer (some ⟨g5, 0, none⟩)]) W fun e w' => e = .returned (Value.bool (geP l (m : Int) x)) ∧ Below W.heap.size W w' := fun W hk => by
        refine ⟨by rw [HOK.out.1]; exact (blk_cell ((hk.2 _ s1).trans hg1) 0).trans rfl, (blk_cell ((hk.2 _ s2).trans hg2) 0).trans rfl, intC_keep (HO6.row_sl 4 rfl).2.2 (fun ad hn hA => ?_), fun x hx => ?_⟩
        · subst hA
          obtain ⟨g', rfl⟩ := HO6.row_head 4 rfl
          refine hk.2 g' ((hSS _).mpr ⟨(HO6.row_block 4 rfl g' (by simp [Value.ownBlock])).2, fun h => HO6.row_row 4 1 (by decide) rfl rfl g' g' (by simp [Value.ownBlock]) h rfl⟩)
        · have hxr := HOK.out.2 x hx
          refine order_Visual_1.calls x A c l (m : Int) (geP l (m : Int) x) W (intC_keep (HO6.old HR.out) (fun ad hn hA => ?_)) HC.out (by rw [HN.out]; exact (hk.2 _ s3).trans (HO6.box_at 0 rfl).1) ((hk.2 _ s4).trans (HO6.box_at 3 rfl).1) (HO6.box_box 0 3 (by decide) rfl rfl) (by rw [order_Visual_1.f, if_pos hxr.1, if_pos (by rw [HN.out]; exact hxr.2)]; rfl)
          subst hA
          have hb := Kd.C_lt HR.out hn (Nat.succ_pos 0)
          exact hk.2 _ ((hSS _).mpr ⟨by omega, fun h => by have := (HO6.row_block 1 rfl _ h).1; omega⟩)
      have hst := piecesB_stops 5 W2.heap.size (W2.heap.size + 1) 39 #[.pointer (some ⟨gl, 0, none⟩), .pointer (some ⟨g5, 0, none⟩)] A2 c2 out (geP l (m : Int)) S W5 hS (enters_ (P := Try.prog) Try.func39 (by kernel_rfl) rfl) hE
      have HKL := Aside0.mk (fun (r : Nat) (hr : r ∈ Ds) => (show r < W5.heap.size from blk_lt (HO6.keeps r _ ⟨hr, rfl⟩).1))
      have HLE5 := Aside0.mk hle5
      have HSS := Aside0.mk hSS
      have HO7 := HO6.upto 4
      clear hw5 hg1 hg2 hsz s1 s2 s3 s4 hE HO2 HO6 hle5 hSd hSS HW5 hl2 hC2
      refine (wpIn_wide (n := 6)).1 ?_
      refine wpIn_rangeFunc_ownH rfl (by decide) (gf := 50) (lb := #[.pointer (some ⟨W2.heap.size, 0, none⟩), .pointer (some ⟨W2.heap.size + 1, 0, none⟩)]) rfl trivial (enters_ (P := Try.prog) Try.func50 (by kernel_rfl) rfl) hst (fun h k => KeepS.trans h k) (fun W l o o' hl ho _ _ => keepS_b hS W l o o' hl ho) (Below.refl _ _) (fun _ => rfl)
        (fun pre W => W5.heap.size ≤ W.heap.size ∧ Own w W [.box gl 26 #[.slice A N c], .row (Kd.int .i64) 3 w.heap.size (.slice Ao N co) ((pre.map (·.1)).foldl revP out), .box go 26 #[.slice Ao N co], .box g5 3 #[.int .i64 (m : Int)]] (keptD Ds))
        (fun cd pre W => False)
        ?hI ?hIx ⟨Nat.le_refl _, HO7⟩
        (fun x a' W => ∃ (g9 : Nat) (u0 u4 u8 u9 u10 u11 u12 u13 u14 u15 u16 u17 u18 u19 u20 u21 u22 u23 u24 u25 u26 u27 u28 u29 u30 u31 u32 u33 u34 u35 u36 u37 u38 u39 u40 : Value), a' = { tmps := #[u0, .pointer (some ⟨gl, 0, none⟩), .slice none 0 0, .pointer (some ⟨go, 0, none⟩), u4, .pointer (some ⟨g5, 0, none⟩), .pointer (some ⟨g9, 0, none⟩), .bool x.1.2.2, u8, u9, u10, u11, u12, u13, u14, u15, u16, u17, u18, u19, u20, u21, u22, u23, u24, u25, u26, u27, u28, u29, u30, u31, u32, u33, u34, u35, u36, u37, u38, u39, u40], defers := [] } ∧ W.heap[g9]? = some (.cells #[.int .i64 x.1.1, .int .i64 x.1.2.1] 51 (0, 0)))
        ?hAx ?assign ?body ?done ?stop
      case hI =>
        rintro pre A' B' row ⟨h1, h2⟩ hg hr
        exact ⟨Nat.le_trans h1 hg.size, h2.other hg (fun r e => ⟨by have := (hr r e).1; have := HLE5.out; omega, fun o ho => by have := (hr r e).1; have h5 := HKL.out r ho.1; omega, (hr r e).2⟩)⟩
      case hIx =>
        rintro cd pre A' B' row h1 hg hr
        exact h1
      case hAx =>
        rintro x a' _ A' B' row ⟨g9, u0, u4, u8, u9, u10, u11, u12, u13, u14, u15, u16, u17, u18, u19, u20, u21, u22, u23, u24, u25, u26, u27, u28, u29, u30, u31, u32, u33, u34, u35, u36, u37, u38, u39, u40, h1, h2⟩ hg hr
        exact ⟨g9, u0, u4, u8, u9, u10, u11, u12, u13, u14, u15, u16, u17, u18, u19, u20, u21, u22, u23, u24, u25, u26, u27, u28, u29, u30, u31, u32, u33, u34, u35, u36, u37, u38, u39, u40, h1, (hg.block g9 (blk_lt h2) (fun e => by obtain ⟨o, ho, hc⟩ := (hr g9 e.symm).2; rw [h2] at ho; cases ho; cases hc)).trans h2⟩
      case assign =>
        rintro lp pre x W K2 ⟨hi1, hi2⟩ hK2
        unfold encPB
        gi_wp2
        exact hK2 _ _ ((KeepsOthers.alloc _ _).from _) ⟨(below_alloc (Below.refl W.heap.size W) _).size, fun k hk => (below_alloc (Below.refl W.heap.size W) _).block k (Nat.lt_of_lt_of_le (hS k hk) hi1)⟩ ⟨by rw [World.size_alloc]; omega, hi2.alloc _⟩ ⟨W.heap.size, _, _, _, _, _, _, _, _, _, _, _, _, _, _, _, _, _, _, _, _, _, _, _, _, _, _, _, _, _, _, _, _, _, _, _, rfl, World.alloc_heap_new W _⟩
      case body =>
        rintro lp pre x a' W hl hrr ⟨hsW, HOb⟩ ⟨g9, u0, u4, u8, u9, u10, u11, u12, u13, u14, u15, u16, u17, u18, u19, u20, u21, u22, u23, u24, u25, u26, u27, u28, u29, u30, u31, u32, u33, u34, u35, u36, u37, u38, u39, u40, rfl, hg9⟩ hlt
        have hxb := pcs_mem _ _ _ x.1 x.2
        rw [HOK.out.1, Nat.zero_add] at hxb
        obtain ⟨o1, ho1⟩ : ∃ o1, (pre.map (·.1)).foldl revP out = o1 := ⟨_, rfl⟩
        rw [ho1] at HOb
        have hfold : ((pre ++ [x]).map (·.1)).foldl revP out = revP o1 x.1 := by rw [List.map_append, List.foldl_append, ho1]; rfl
        cases hx2 : x.1.2.2 with
        | false =>
          have HF := Aside0.mk (show ((pre ++ [x]).map (·.1)).foldl revP out = o1 by rw [hfold, revP, hx2]; rfl)
          clear hfold
          gi_wp2
          exact ⟨KeepsFrom.refl _ _, KeepS.refl _ _, hsW, by rw [HF.out]; exact HOb⟩
        | true =>
          have HF := Aside0.mk (show ((pre ++ [x]).map (·.1)).foldl revP out = revR o1 x.1.1 x.1.2.1 by rw [hfold, revP, hx2]; rfl)
          obtain ⟨g, hg⟩ : ∃ g, Ao = some ⟨g, 0, none⟩ := by
            obtain ⟨ad, hA, -⟩ := (HOb.row_sl 1 rfl).2.2.2.2 (by have := (HOb.row_sl 1 rfl).1; omega)
            subst hA
            obtain ⟨g, rfl⟩ := HOb.row_head 1 rfl
            exact ⟨g, rfl⟩
          subst hg
          have hco := (HOb.row_sl 1 rfl).2.1
          have b2 := HOb.box_cell 2 rfl 0 rfl
          have v1 : W.cell? ⟨g9, 0, none⟩ = some (.int .i64 x.1.1) := (blk_cell hg9 0).trans rfl
          have v2 : W.cell? ⟨g9, 1, none⟩ = some (.int .i64 x.1.2.1) := (blk_cell hg9 1).trans rfl
          obtain ⟨a, ha⟩ : ∃ a, x.1.1 = a := ⟨_, rfl⟩
          obtain ⟨b, hb⟩ : ∃ b, x.1.2.1 = b := ⟨_, rfl⟩
          rw [ha] at v1 hxb HF
          rw [hb] at v2 hxb HF
          have i1 : (0 ≤ (a : Int)) = True := eq_true (by omega)
          have i2 : ((a : Int) ≤ (b : Int)) = True := eq_true (by omega)
          have i3 : ((b : Int) ≤ (co : Int)) = True := eq_true (by omega)
          have i4 : (a ≤ b) = True := eq_true (by omega)
          have i5 : (b ≤ co) = True := eq_true (by omega)
          have i6 : (co = a) = False := eq_false (by omega)
          have i7 : (0 ≤ (b : Int)) = True := eq_true (by omega)
          have HXB := Aside0.mk hxb
          have HOB := Aside0.mk HOb
          have hrv := reverse_calls 1 (HOb.keep (K' := fun k o => W.heap[k]? = some o ∧ o.isCells = false) (fun _ _ h => h)) rfl a b (co - a) (some ⟨g, a, none⟩) (fun _ => rfl) (by omega) (by omega)
          have HG9 := Aside0.mk (show g < W5.heap.size ∧ ∀ k, S k → k ≠ g from ⟨(HO7.row_block 1 rfl g (by simp [Value.ownBlock])).2, fun k hk => fun e => ((HSS.out k).mp hk).2 (by rw [e]; simp [Value.ownBlock])⟩)
          clear hfold hxb ha hb hco hg9
          gi_wp2_with (first | ((first | refine ⟨trivial, (fun h => by cases h), ?_⟩ | refine ⟨trivial, ?_⟩); gi_at_call 40; (with_reducible refine (CallsIn.inRound lp (callsIn_wide.2 hrv)).mono ?_); rintro e w3 ⟨rfl, HO3, hk3⟩))
          have HO4 := HO3.keep (K' := keptD Ds) (fun k o hk => HO3.keeps k o (HOB.out.keeps k o hk))
          exact ⟨⟨hk3.1, fun j o hj h1 h2 => (hk3.2 j (by have := HG9.out.1; omega)).trans h1⟩, ⟨hk3.1, fun k hk => hk3.2 k (HG9.out.2 k hk)⟩, Nat.le_trans hsW hk3.1, by rw [HF.out]; exact HO4⟩
      case done =>
        rintro D ys W hD hS2 ⟨hsW, HOd⟩ hDk
        have hvn : (ys.map (·.1)).foldl revP out = visN l (k + 1) := by rw [HSTEP.out, hS2]
        rw [hvn] at HOd
        have HDN := Aside0.mk (show (D :: Ds).Nodup ∧ ∀ D' ∈ D :: Ds, w.heap.size ≤ D' from ⟨List.nodup_cons.mpr ⟨fun hm => by have := HKL.out D hm; omega, HDS.out.1⟩, fun D' h' => by
          rcases List.mem_cons.mp h' with rfl | h'
          · have := HLE5.out; omega
          · exact HDS.out.2 D' h'⟩)
        have HO4 := HOd.keep (K' := keptD (D :: Ds)) (fun j o h1 => by
          rcases List.mem_cons.mp h1.1 with h2 | h2
          · subst h2; obtain ⟨_, rfl⟩ := h1; exact ⟨hDk, rfl⟩
          · exact HOd.keeps j o ⟨h2, h1.2⟩)
        have b5 := HO4.box_cell 3 rfl 0 rfl
        clear HOd hvn hDk hst hD hS2
        go_wp2_with (first
          | ((with_reducible refine gate_dst (N := 5) rfl ?_); refine ev_box (N := 5) (cs := #[.int .i64 0]) (t := 3) HO4 rfl rfl ?hr ?_; (case hr => first | (go_simp; done) | (go_simp; rfl)); intro h5 W7 HO7 hb7; clear HO4 hb7 b5)
          | ((with_reducible refine gate_store (t := 3) (p := 5) rfl ?_); refine ev_store (cs' := #[.int .i64 (m : Int)]) (.int .i64 (m : Int)) 4 HO7 rfl rfl rfl rfl 0 rfl rfl sz3 (by simp [Value.oneCell', Value.cells]) (Nat.le_refl _) rfl ?_; intro W8 HO8; clear HO7; have b6 := HO8.box_cell 4 rfl 0 rfl)
          | ((with_reducible refine gate_store (t := 3) (p := 5) rfl ?_); refine ev_store (cs' := #[.int .i64 ((m : Int) - 1)]) (.int .i64 ((m : Int) - 1)) 4 HO8 rfl rfl rfl rfl 0 rfl rfl sz3 (by simp [Value.oneCell', Value.cells]) (Nat.le_refl _) rfl ?_; intro W9 HO9; clear HO8 b6))
        have HO10 := HO9.pick [0, 1, 2, 4] (L' := [.box gl 26 #[.slice A N c], .row (Kd.int .i64) 3 w.heap.size (.slice Ao N co) (visN l (k + 1)), .box go 26 #[.slice Ao N co], .box h5 3 #[.int .i64 ((9 : Int) - ((k + 1 : Nat) : Int))]]) (fun i r h => by
          match i, h with
          | 0, h => exact ⟨0, rfl, h⟩
          | 1, h => exact ⟨1, rfl, h⟩
          | 2, h => exact ⟨2, rfl, h⟩
          | 3, h => exact ⟨4, rfl, by rw [← h, show (9 : Int) - ((k + 1 : Nat) : Int) = (m : Int) - 1 by have := HM.out; omega]; rfl⟩) (by decide)
        exact HKK.out _ _ (Handed.intro (9 - (k + 1)) (by have := HG.out; have := HM.out; omega) (HJ.out _ _ _ ⟨k + 1, h5, visN l (k + 1), D :: Ds, _, _, _, _, _, _, _, _, _, _, _, _, _, _, _, _, _, _, _, _, _, _, _, _, _, _, _, _, _, _, _, _, _, _, _, _, _, rfl, ⟨by have := HM.out; omega⟩, ⟨rfl⟩, ⟨rfl⟩, ⟨HO10⟩, HDN⟩))
      case stop =>
        rintro D cd pre W hD hSp h
        exact h.elim
end Go.Proofs.Ytacnckneiklgpaa.Q

/- attach.Places. -/
import Derived.Test.YtnnkbcgoockniaaB
import Derived.Test.YtnnkbcgoockniaaRnd
import Derived.IntWalk
namespace Go.Proofs.Ytnnkbcgoockniaa.Q
open Go.RowKit Go.Shelf Go.Proofs.YtnnkbcgoockniaaW.PrintWords Go.Proofs.YtnnkbcgoockniaaW.PrintLast Go.Proofs.YtnnkbcgoockniaaW.PrintMore
set_option linter.unusedSimpArgs false
set_option linter.unusedVariables false
attribute [local go_sem] Oper.semAt_some

/-- The place of glyph k, those before it having places. -/
def place1 (l : List S35) (out : List S37) (pen : Int) (k : Nat) : S37 :=
  if (l.getD k z35).f2.f0 = 0 then ⟨pen, 0⟩ else
    match (backs l (l.getD k z35).f2.f0 k).head? with
    | none => ⟨pen, 0⟩
    | some x => ⟨(out.getD x.1 z37).f0 + x.2.f1 - (l.getD k z35).f2.f1, (out.getD x.1 z37).f1 + x.2.f2 - (l.getD k z35).f2.f2⟩
def pen1 (l : List S35) (pen : Int) (k : Nat) : Int := if (l.getD k z35).f2.f0 = 0 then pen + (l.getD k z35).f3 else pen
/-- The places of the first k glyphs, and where the next one begins. -/
def placesN (l : List S35) : Nat → List S37 × Int
  | 0 => ([], 0)
  | k + 1 => ((placesN l k).1 ++ [place1 l (placesN l k).1 (placesN l k).2 k], pen1 l (placesN l k).2 k)
def placesF (l : List S35) : List S37 := if 200 < l.length then [] else if l.any (fun d => !rightB d) = true then [] else (placesN l l.length).1
theorem placesN_length (l : List S35) : ∀ k, (placesN l k).1.length = k
  | 0 => rfl
  | k + 1 => by simp [placesN, placesN_length l k]
theorem backs_take (l : List S35) (cl : Int) (m : Nat) : ∀ k, k ≤ m → backs (l.take m) cl k = backs l cl k
  | 0, _ => rfl
  | k + 1, h => by
    simp only [backs]
    rw [backs_take l cl m k (by omega), show (l.take m).getD k z35 = l.getD k z35 by simp [List.getD_eq_getElem?_getD, List.getElem?_take, show k < m by omega]]
theorem backs_lt (l : List S35) (cl : Int) : ∀ k x, x ∈ backs l cl k → x.1 < k ∧ x.2 ∈ (l.getD x.1 z35).f1
  | 0, x, h => by simp [backs] at h
  | k + 1, x, h => by
    simp only [backs, List.mem_append, List.mem_map, List.mem_filter] at h
    rcases h with ⟨a, ⟨ha, _⟩, rfl⟩ | h
    · exact ⟨Nat.lt_succ_self _, ha⟩
    · have := backs_lt l cl k x h
      exact ⟨by omega, this.2⟩
/-- All numbers of a right glyph are small. -/
theorem right_small {d : S35} (h : rightB d = true) : (∀ a, a ∈ d.f1 → (-1048576 ≤ a.f1 ∧ a.f1 ≤ 1048576) ∧ (-1048576 ≤ a.f2 ∧ a.f2 ≤ 1048576)) ∧ ((-1048576 ≤ d.f2.f1 ∧ d.f2.f1 ≤ 1048576) ∧ (-1048576 ≤ d.f2.f2 ∧ d.f2.f2 ≤ 1048576)) ∧ (-1048576 ≤ d.f3 ∧ d.f3 ≤ 1048576) := by
  unfold rightB at h
  rw [Bool.and_eq_true, Bool.and_eq_true, Bool.not_eq_true', Bool.not_eq_true'] at h
  obtain ⟨h1, h2, h3⟩ := h
  refine ⟨fun a ha => ?_, ?_, ((smallB_iff _ _).mp h3).1⟩
  · have h4 : farB a = false := by
      cases hf : farB a with
      | false => rfl
      | true => rw [List.any_eq_true.mpr ⟨a, ha, hf⟩] at h1; cases h1
    exact (smallB_iff _ _).mp (by simpa [farB] using h4)
  · exact (smallB_iff _ _).mp (by simpa [farB] using h2)
/-- How far places may be. -/
theorem placesN_bound (l : List S35) (hr : ∀ d ∈ l, rightB d = true) : ∀ k, k ≤ l.length → (-(2097152 * (k : Int)) ≤ (placesN l k).2 ∧ (placesN l k).2 ≤ 2097152 * k) ∧
    ∀ p ∈ (placesN l k).1, (-(2097152 * (k : Int)) ≤ p.f0 ∧ p.f0 ≤ 2097152 * k) ∧ (-(2097152 * (k : Int)) ≤ p.f1 ∧ p.f1 ≤ 2097152 * k)
  | 0, _ => by simp [placesN]
  | k + 1, h => by
    obtain ⟨⟨h1, h2⟩, h3⟩ := placesN_bound l hr k (by omega)
    have hm : l.getD k z35 ∈ l := by rw [List.getD_eq_getElem?_getD, List.getElem?_eq_getElem (by omega)]; exact List.getElem_mem _
    obtain ⟨g1, ⟨⟨g2, g3⟩, g4, g5⟩, g6, g7⟩ := right_small (hr _ hm)
    have hz : (-(2097152 * (k : Int)) ≤ (z37).f0 ∧ (z37).f0 ≤ 2097152 * k) ∧ (-(2097152 * (k : Int)) ≤ z37.f1 ∧ z37.f1 ≤ 2097152 * k) := by
      simp only [z37]; omega
    refine ⟨?_, fun p hp => ?_⟩
    · simp only [placesN, pen1]
      split <;> omega
    · simp only [placesN, List.mem_append, List.mem_singleton] at hp
      rcases hp with hp | rfl
      · have := h3 p hp
        omega
      · unfold place1
        split
        · dsimp only; omega
        · split
          · dsimp only; omega
          · rename_i x hx
            have hx2 := backs_lt l _ k x (List.mem_of_mem_head? hx)
            have hp2 : (-(2097152 * (k : Int)) ≤ ((placesN l k).1.getD x.1 z37).f0 ∧ ((placesN l k).1.getD x.1 z37).f0 ≤ 2097152 * k) ∧ (-(2097152 * (k : Int)) ≤ ((placesN l k).1.getD x.1 z37).f1 ∧ ((placesN l k).1.getD x.1 z37).f1 ≤ 2097152 * k) := by
              rw [List.getD_eq_getElem?_getD]
              by_cases hl : x.1 < (placesN l k).1.length
              · rw [List.getElem?_eq_getElem hl]
                exact h3 _ (List.getElem_mem _)
              · rw [List.getElem?_eq_none (by omega)]
                exact hz
            have hm2 : l.getD x.1 z35 ∈ l := by rw [List.getD_eq_getElem?_getD, List.getElem?_eq_getElem (by omega)]; exact List.getElem_mem _
            have ha := (right_small (hr _ hm2)).1 _ hx2.2
            dsimp only
            omega
/-- The mark of a range over a function that is over; what lies in its block. -/
def markD (D : Nat) : Deferred := { target := .collected D, args := #[] }
def keptD (Ds : List Nat) (k : Nat) (o : Obj) : Prop := k ∈ Ds ∧ o = .deferred (some [])
theorem hinfo37 : (Try.prog.info? 37).map (fun i => (i.zero, i.size, i.bytes)) = some (some (.agg #[(.int .i64 0), (.int .i64 0)]), 2, 16) := by kernel_rfl
theorem sz27 : (Try.prog.info? 27).map (·.size) = some 1 := by kernel_rfl
/-- On the way out the marks are taken up. -/
theorem leaves_marks {F : Fence} {n : Nat} {P : Program} {fn : Func} {tmps : Array Value} {R : Ending → World → Prop} {w : World} {L : List Res} (hfin : ∀ W', Own w W' L → ∃ v, (results fn tmps).run P W' = .ok v W' ∧ R (.returned v) W') :
    ∀ (Ds : List Nat) (W : World), Own w W L (keptD Ds) → Ds.Nodup → (∀ D ∈ Ds, w.heap.size ≤ D) → LeavesInM F n P fn tmps R (Ds.map markD) .returning W
  | [], W, h, _, _ => hfin W (h.keep (fun _ _ hk => hk.elim))
  | D :: Ds, W, h, hn, hD => by
    have h1 := (h.keeps D _ ⟨List.mem_cons_self, rfl⟩)
    rw [List.nodup_cons] at hn
    refine ⟨by simp, .inl ⟨D, _, rfl, run_takeDeferred h1.1, leaves_marks hfin Ds _ ?_ hn.2 (fun D' h' => hD D' (List.mem_cons_of_mem _ h'))⟩⟩
    refine (h.keep (K' := keptD Ds) (fun k o hk => h.keeps k o ⟨List.mem_cons_of_mem _ hk.1, hk.2⟩)).other (grownBy_putObj' W D _) (fun r e => ?_)
    cases e
    exact ⟨hD D List.mem_cons_self, fun o ho => hn.1 ho.1, _, h1.1, h1.2⟩
set_option maxRecDepth 100000 in
set_option maxHeartbeats 4000000 in
set_option pp.deepTerms true in
set_option pp.maxSteps 1000000 in
theorem places_calls (A : Option Addr) (c : Nat) (l : List S35) (w : World) (hr : Kd.C k35 w A l.length l) (hc : l.length ≤ c) :
    Calls Try.prog 13 #[.slice A l.length c] w fun e w' => ∃ v, e = .returned v ∧ Kd.R k37 37 w' w.heap.size (fun _ => True) v (placesF l) ∧ Below w.heap.size w w' := by
  have HR := Aside0.mk hr
  have HC := Aside0.mk hc
  have hlm : (l.length : Int) ≤ 9223372036854775807 := by have := Kd.C_max hr; omega
  have HO := Own.start w
  have C1 := fun w' (hb : Below w.heap.size w w') => conD (fun d => !rightB d) 19 (enters_ (P := Try.prog) Try.func19 (by kernel_rfl) rfl) (fun x A0 A1 c0 c1 W _ _ h1 h2 => place1_calls x A0 A1 c0 c1 W h1 h2) A c l w' (Kd.C_below hr hb) hc
  have HC1 := Aside0.mk C1
  clear hr hc C1
  refine (callsIn_wide (n := 6)).1 ?_
  refine callsIn_of_wp_marks Try.func13 rfl trivial ?_ rfl
  simp only [Try.ntmps13, List.size_toArray, List.length_cons, List.length_nil, Nat.reduceAdd, Nat.reduceSub, Array.replicate_succ, Array.replicate_zero, List.push_toArray, List.append_toArray, List.nil_append, List.cons_append]
  refine wpIn_wide.2 ?_
  by_cases h200 : 200 < l.length
  · have hb : (200 : Int) < (l.length : Int) := by omega
    have HF := Aside0.mk (show placesF l = [] by unfold placesF; rw [if_pos h200])
    clear h200
    go_wp2
    exact leaves_marks (L := []) (fun W' HW => ⟨_, results_tmp rfl _ _ _, _, rfl, by rw [HF.out]; exact Kd.R_nil _ _ _ _ _, HW.below⟩) [] _ (HO.keep (fun k o hk => by simp [keptD] at hk)) List.nodup_nil (by simp)
  · have hb : ¬ (200 : Int) < (l.length : Int) := by omega
    cases hany : l.any (fun d => !rightB d) with
    | true =>
      have HA := Aside0.mk hany
      have HF := Aside0.mk (show placesF l = [] by unfold placesF; rw [if_neg h200, if_pos hany])
      clear hany h200
      go_wp2_with (go_at_call 18; (with_reducible refine (HC1.out _ (Below.refl _ _)).mono ?_); rintro e w' ⟨rfl, hb⟩; rw [HA.out]; have HO1 := HO.grow hb)
      exact leaves_marks (L := []) (fun W' HW => ⟨_, results_tmp rfl _ _ _, _, rfl, by rw [HF.out]; exact Kd.R_nil _ _ _ _ _, HW.below⟩) [] _ (HO1.keep (fun k o hk => by simp [keptD] at hk)) List.nodup_nil (by simp)
    | false =>
      have HA := Aside0.mk hany
      have HF := Aside0.mk (show placesF l = (placesN l l.length).1 by unfold placesF; rw [if_neg h200, if_neg (by rw [hany]; decide)])
      have H200 := Aside0.mk h200
      clear hany
      go_wp2_with (first
        | (go_at_call 18; (with_reducible refine (HC1.out _ (Below.refl _ _)).mono ?_); rintro e w1 ⟨rfl, hb⟩; rw [HA.out]; have HO1 := HO.grow hb; clear HO)
        | ((with_reducible refine gate_dst (N := 3) rfl ?_); refine ev_box (N := 3) (cs := #[.slice none 0 0]) (t := 27) HO1 rfl rfl ?hr ?_; (case hr => first | (go_simp; done) | (go_simp; rfl)); intro g3 W3 HO3 hb3; clear HO1 hb3))
      clear h200 hb
      refine wp_loop_ghost_k (fun gk a' wr => ∃ (k : Nat) (kz pen : Int) (out : List S37) (A3 : Option Addr) (c3 : Nat) (Ds : List Nat) (u5 u6 u7 u8 u9 u20 u21 u22 u23 u24 u25 u26 u27 u28 u29 u30 u31 u32 u33 u34 u35 u36 u37 u38 u39 u40 u41 u42 u43 u44 u45 u46 u47 u48 u49 u50 u51 u52 u53 u54 u55 u56 u57 u58 u59 u60 u61 u62 u63 u64 u65 u66 u67 u68 u69 u70 u71 u72 u73 u74 u75 u76 : Value), a' = { tmps := #[.slice A l.length c, undef, .slice none 0 0, .pointer (some ⟨g3, 0, none⟩), .int .i64 pen, u5, u6, u7, u8, u9, .slice A l.length c, .int .i64 l.length, .bool false, .bool false, .slice A l.length c, .bool false, .bool false, .slice A l.length c, .int .i64 l.length, .int .i64 kz, u20, u21, u22, u23, u24, u25, u26, u27, u28, u29, u30, u31, u32, u33, u34, u35, u36, u37, u38, u39, u40, u41, u42, u43, u44, u45, u46, u47, u48, u49, u50, u51, u52, u53, u54, u55, u56, u57, u58, u59, u60, u61, u62, u63, u64, u65, u66, u67, u68, u69, u70, u71, u72, u73, u74, u75, u76, undef], defers := Ds.map markD } ∧ kz = (k : Int) ∧ Aside0 (k ≤ l.length) ∧ Aside0 (gk = l.length - k) ∧ Aside0 (placesN l k = (out, pen)) ∧ Aside0 (Own w wr [.box g3 27 #[.slice A3 k c3], .row k37 37 w.heap.size (.slice A3 k c3) out] (keptD Ds)) ∧ Aside0 (Ds.Nodup ∧ ∀ D ∈ Ds, w.heap.size ≤ D)) l.length ?_ ?_
      · exact ⟨0, 0, 0, [], none, 0, [], undef, undef, undef, undef, undef, undef, undef, undef, undef, undef, undef, undef, undef, undef, undef, undef, undef, undef, undef, undef, undef, undef, undef, undef, undef, undef, undef, undef, undef, undef, undef, undef, undef, undef, undef, undef, undef, undef, undef, undef, undef, undef, undef, undef, undef, undef, undef, undef, undef, undef, undef, undef, undef, undef, undef, undef, undef, undef, undef, undef, undef, undef, rfl, rfl, ⟨Nat.zero_le _⟩, ⟨rfl⟩, ⟨rfl⟩, ⟨(HO3.keep (fun k o hk => by simp [keptD] at hk)).newrow k37 37⟩, ⟨List.nodup_nil, by simp⟩⟩
      · clear HO3
        rintro gk a' wr ⟨k, kz, pen, out, A3, c3, Ds, u5, u6, u7, u8, u9, u20, u21, u22, u23, u24, u25, u26, u27, u28, u29, u30, u31, u32, u33, u34, u35, u36, u37, u38, u39, u40, u41, u42, u43, u44, u45, u46, u47, u48, u49, u50, u51, u52, u53, u54, u55, u56, u57, u58, u59, u60, u61, u62, u63, u64, u65, u66, u67, u68, u69, u70, u71, u72, u73, u74, u75, u76, rfl, rfl, HK, HG, HP, HOO, HN⟩ J K hJ hK
        have HJ := Aside0.mk hJ
        have HKK := Aside0.mk hK
        have HO := HOO.out
        clear hJ hK HOO
        by_cases hlt : k < l.length
        · obtain ⟨ad, A0, c0, A1, c1, rfl, x0, x1, x2, x3, x4, x5, y0, y1, y2, y3⟩ := at_T35 HR.out (k : Int) (by omega) (by omega)
          have hall : ∀ d ∈ l, rightB d = true := fun d hd => by
            have h2 := HA.out
            rw [List.any_eq_false] at h2
            simpa using h2 d hd
          have hbd := placesN_bound l hall k (by omega)
          have hln := placesN_length l k
          rw [HP.out] at hbd hln
          obtain ⟨⟨t1, t2⟩, hbd⟩ := hbd
          dsimp only at t1 t2 hbd hln
          have HBD := Aside0.mk hbd
          have HLN := Aside0.mk (show out.length = k ∧ k < 200 ∧ k < l.length by have := H200.out; omega)
          have HALL := Aside0.mk hall
          replace x0 := pw_cell_below HO.below x0
          replace x1 := pw_cell_below HO.below x1
          replace x2 := pw_cell_below HO.below x2
          replace x3 := pw_cell_below HO.below x3
          replace x4 := pw_cell_below HO.below x4
          replace x5 := pw_cell_below HO.below x5
          clear y0 y1 y2 y3 hbd hln
          rw [show rd_T35 l (k : Int) = l.getD k z35 from rfl] at x0 x1 x2 x3 x4 x5
          rw [Int.toNat_natCast] at x0 x1 x2 x3 x4 x5
          have HS := Aside0.mk (show placesN l (k + 1) = (out ++ [place1 l out pen k], pen1 l pen k) by rw [show placesN l (k + 1) = ((placesN l k).1 ++ [place1 l (placesN l k).1 (placesN l k).2 k], pen1 l (placesN l k).2 k) from rfl, HP.out])
          have hm : l.getD k z35 ∈ l := by rw [List.getD_eq_getElem?_getD, List.getElem?_eq_getElem hlt]; exact List.getElem_mem _
          obtain ⟨s1, ⟨⟨s2, s3⟩, s4, s5⟩, s6, s7⟩ := right_small (hall _ hm)
          clear hall s1 hm
          obtain ⟨d, hd⟩ : ∃ d, l.getD k z35 = d := ⟨_, rfl⟩
          have HD := Aside0.mk hd
          rw [hd] at x0 x1 x2 x3 x4 x5 s2 s3 s4 s5 s6 s7
          clear hd
          have p1 : (0 ≤ (k : Int)) = True := eq_true (by omega)
          have q1 : ((k : Int) < (l.length : Int)) = True := eq_true (by omega)
          have hkb : (k : Int) + 1 ≤ 200 := by have := HLN.out; omega
          clear hlt
          by_cases hz : d.f2.f0 = 0
          · have hzb : (d.f2.f0 == 0) = true := beq_iff_eq.mpr hz
            have HS1 := Aside0.mk (show placesN l (k + 1) = (out ++ [⟨pen, 0⟩], pen + d.f3) by rw [HS.out, place1, pen1, HD.out, if_pos hz, if_pos hz])
            clear HS hz
            have wb1 : -9223372036854775808 ≤ pen + d.f3 := by omega
            have wb2 : pen + d.f3 ≤ 9223372036854775807 := by omega
            clear t1 t2 s2 s3 s4 s5 s6 s7
            go_wp2_with (first
              | ((with_reducible refine gate_dst (N := 6) rfl ?_); refine ev_box (N := 6) (cs := #[.slice none 0 0, .slice none 0 0, .int .i64 0, .int .i64 0, .int .i64 0, .int .i64 0]) (t := 35) HO rfl rfl ?hr ?_; (case hr => first | (go_simp; done) | (go_simp; rfl)); intro g6 W1 HO1 hb1; clear HO hb1 x0 x1 x2 x3 x4 x5)
              | ((with_reducible refine gate_store (t := 35) (p := 6) rfl ?_); refine ev_store (cs' := #[.slice A0 d.f0.length c0, .slice A1 d.f1.length c1, .int .i64 d.f2.f0, .int .i64 d.f2.f1, .int .i64 d.f2.f2, .int .i64 d.f3]) (.agg #[.slice A0 d.f0.length c0, .slice A1 d.f1.length c1, .int .i64 d.f2.f0, .int .i64 d.f2.f1, .int .i64 d.f2.f2, .int .i64 d.f3]) 2 HO1 rfl rfl rfl rfl 0 rfl rfl sz35 (by simp [Value.oneCell', Value.cells]) (Nat.le_refl _) rfl ?_; intro W2 HO2; clear HO1)
              | ((with_reducible refine gate_dst (N := 7) rfl ?_); refine ev_box (N := 7) (cs := #[.int .i64 0, .int .i64 0]) (t := 37) HO2 rfl rfl ?hr ?_; (case hr => first | (go_simp; done) | (go_simp; rfl)); intro g7 W3 HO3 hb3; clear HO2 hb3)
              | ((with_reducible refine gate_store (t := 37) (p := 7) rfl ?_); refine ev_store (cs' := #[.int .i64 pen, .int .i64 0]) (.agg #[.int .i64 pen, .int .i64 0]) 3 HO3 rfl rfl rfl rfl 0 rfl rfl sz37 (by simp [Value.oneCell', Value.cells]) (Nat.le_refl _) rfl ?_; intro W4 HO4; clear HO3; have b3 := HO4.box_cell 0 rfl 0 rfl; have y2 := HO4.box_cell 2 rfl 2 rfl; have y3 := HO4.box_cell 2 rfl 3 rfl; have y4 := HO4.box_cell 2 rfl 4 rfl; have z0 := HO4.box_cell 3 rfl 0 rfl; have z1 := HO4.box_cell 3 rfl 1 rfl)
              | ((with_reducible refine gate_builtin (b := .append) (xs := #[.tmp 30, .tmp 32]) rfl ?_); at_builtin; go_loud (refine ev_append 1 HO4 rfl rfl (.tmp 30) (.tmp 32) 27 (.agg #[.int .i64 0, .int .i64 0]) 16 rfl Try.underlying27 hinfo37 rfl (by decide) (by decide) (⟨pen, 0⟩ : S37) [.int .i64 pen, .int .i64 0] rfl rfl (k37_mkM _ _ _ _) ?aL ?_); (case aL => have := HLN.out; omega); intro A5 c5 W5 HO5; clear HO4 b3 y2 y3 y4 z0 z1)
              | ((with_reducible refine gate_store (t := 27) (p := 3) rfl ?_); refine ev_store (cs' := #[.slice A5 (out.length + 1) c5]) (.slice A5 (out.length + 1) c5) 0 HO5 rfl rfl rfl rfl 0 rfl rfl sz27 (by simp [Value.oneCell', Value.cells]) (Nat.le_refl _) rfl ?_; intro W6 HO6; clear HO5; have y5 := HO6.box_cell 2 rfl 5 rfl))
            refine HKK.out _ _ (Handed.intro (l.length - (k + 1)) (by have := HG.out; have := HLN.out; omega) (HJ.out _ _ _ ⟨k + 1, (k : Int) + 1, pen + d.f3, out ++ [⟨pen, 0⟩], A5, c5, Ds, _, _, _, _, _, _, _, _, _, _, _, _, _, _, _, _, _, _, _, _, _, _, _, _, _, _, _, _, _, _, _, _, _, _, _, _, _, _, _, _, _, _, _, _, _, _, _, _, _, _, _, _, _, _, _, _, _, _, _, _, _, _, rfl, by omega, ⟨by have := HLN.out; omega⟩, ⟨rfl⟩, HS1, ⟨?_⟩, HN⟩))
            have h := HO6.upto 2
            rw [HLN.out.1] at h
            exact h
          · have hzb : (d.f2.f0 == 0) = false := beq_eq_false_iff_ne.mpr hz
            have HPN := Aside0.mk (show pen1 l pen k = pen by rw [pen1, HD.out, if_neg hz])
            have HPL := Aside0.mk (show place1 l out pen k = match (backs l d.f2.f0 k).head? with | none => ⟨pen, 0⟩ | some x => ⟨(out.getD x.1 z37).f0 + x.2.f1 - d.f2.f1, (out.getD x.1 z37).f1 + x.2.f2 - d.f2.f2⟩ by rw [place1, HD.out, if_neg hz])
            clear hz
            go_upto_region 12 with (first
              | ((with_reducible refine gate_dst (N := 6) rfl ?_); refine ev_box (N := 6) (cs := #[.slice none 0 0, .slice none 0 0, .int .i64 0, .int .i64 0, .int .i64 0, .int .i64 0]) (t := 35) HO rfl rfl ?hr ?_; (case hr => first | (go_simp; done) | (go_simp; rfl)); intro g6 W1 HO1 hb1; clear HO hb1 x0 x1 x2 x3 x4 x5)
              | ((with_reducible refine gate_store (t := 35) (p := 6) rfl ?_); refine ev_store (cs' := #[.slice A0 d.f0.length c0, .slice A1 d.f1.length c1, .int .i64 d.f2.f0, .int .i64 d.f2.f1, .int .i64 d.f2.f2, .int .i64 d.f3]) (.agg #[.slice A0 d.f0.length c0, .slice A1 d.f1.length c1, .int .i64 d.f2.f0, .int .i64 d.f2.f1, .int .i64 d.f2.f2, .int .i64 d.f3]) 2 HO1 rfl rfl rfl rfl 0 rfl rfl sz35 (by simp [Value.oneCell', Value.cells]) (Nat.le_refl _) rfl ?_; intro W2 HO2; clear HO1)
              | ((with_reducible refine gate_dst (N := 7) rfl ?_); refine ev_box (N := 7) (cs := #[.int .i64 0, .int .i64 0]) (t := 37) HO2 rfl rfl ?hr ?_; (case hr => first | (go_simp; done) | (go_simp; rfl)); intro g7 W3 HO3 hb3; clear HO2 hb3)
              | ((with_reducible refine gate_store (t := 37) (p := 7) rfl ?_); refine ev_store (cs' := #[.int .i64 pen, .int .i64 0]) (.agg #[.int .i64 pen, .int .i64 0]) 3 HO3 rfl rfl rfl rfl 0 rfl rfl sz37 (by simp [Value.oneCell', Value.cells]) (Nat.le_refl _) rfl ?_; intro W4 HO4; clear HO3; have b3 := HO4.box_cell 0 rfl 0 rfl; have y2 := HO4.box_cell 2 rfl 2 rfl; have y3 := HO4.box_cell 2 rfl 3 rfl; have y4 := HO4.box_cell 2 rfl 4 rfl; have z0 := HO4.box_cell 3 rfl 0 rfl; have z1 := HO4.box_cell 3 rfl 1 rfl))
            have hkc : (k : Int) ≤ (c : Int) := by have := HLN.out; have := HC.out; omega
            go_still_tail 6, (by kernel_rfl)
            change wpList _ _ _ _ _ W4.drew
            have HO5 := HO4.drew
            clear HO4 b3 y2 y3 y4 z0 z1
            go_wp2_with (go_at_call 21; (with_reducible refine (back_calls _ _ _ _ _).mono ?_); rintro e w5 ⟨rfl, hw⟩; have HW5 := Aside0.mk hw; clear hw)
            have HO6 := HO5.alloc (.cells #[.slice (some ad) k c] 24) |>.alloc (.cells #[.int .i64 d.f2.f0] 3)
            have hw5 := HW5.out
            have hg1 := World.alloc_heap_new W4.drew (.cells #[.slice (some ad) k c] 24)
            have hg1 := (Below.heap_alloc _ (.cells #[.int .i64 d.f2.f0] 3) _ (blk_lt hg1)).trans hg1
            have hg2 := World.alloc_heap_new (W4.drew.alloc (.cells #[.slice (some ad) k c] 24)) (.cells #[.int .i64 d.f2.f0] 3)
            rw [World.size_alloc] at hg2
            rw [← hw5] at HO6 hg1 hg2
            have hsz : W4.heap.size ≤ w5.heap.size := by rw [hw5]; simp; omega
            have hlk : (l.take k).length = k := by rw [List.length_take]; have := HLN.out; omega
            have hc1 : w5.cell? ⟨W4.drew.heap.size, 0, none⟩ = some (.slice (some ad) (l.take k).length c) := by rw [hlk]; exact (blk_cell hg1 0).trans rfl
            have hc2 : w5.cell? ⟨W4.drew.heap.size + 1, 0, none⟩ = some (.int .i64 d.f2.f0) := (blk_cell hg2 0).trans rfl
            have hrk : Kd.C k35 w5 (some ad) (l.take k).length (l.take k) := Kd.C_take (HO6.old HR.out) (by have := HLN.out; omega)
            have HBK := Aside0.mk (show backs (l.take k) d.f2.f0 (l.take k).length = backs l d.f2.f0 k by rw [hlk, backs_take l _ k k (Nat.le_refl _)])
            have hst := back_stops 5 W4.drew.heap.size (W4.drew.heap.size + 1) (some ad) c (l.take k) d.f2.f0 w5 hc1 hc2 hrk
            have HSZ := Aside0.mk hsz
            have HO4L := Aside0.mk (show w.heap.size ≤ W4.heap.size from HO5.below.size)
            have HKL := Aside0.mk (fun (r : Nat) (hr : r ∈ Ds) => (show r < W4.heap.size from blk_lt (HO5.keeps r _ ⟨hr, rfl⟩).1))
            clear hw5 hg1 hg2 hlk hc1 hc2 hrk hsz HO5 HW5
            refine (wpIn_wide (n := 6)).1 ?_
            refine wpIn_rangeFunc_ownH rfl (by decide) (gf := 28) (lb := #[.pointer (some ⟨W4.drew.heap.size, 0, none⟩), .pointer (some ⟨W4.drew.heap.size + 1, 0, none⟩)]) rfl trivial (enters_ (P := Try.prog) Try.func28 (by kernel_rfl) rfl) hst belowK_t (fun W l o o' hl ho h1 h2 => belowK_b (Nat.le_refl _) W l o o' hl ho h1 h2) (Below.refl _ _) (fun _ => rfl)
              (fun pre W => (pre = [] ∧ w5.heap.size ≤ W.heap.size) ∧ Own w W [.box g3 27 #[.slice A3 k c3], .row k37 37 w.heap.size (.slice A3 k c3) out, .box g6 35 #[.slice A0 d.f0.length c0, .slice A1 d.f1.length c1, .int .i64 d.f2.f0, .int .i64 d.f2.f1, .int .i64 d.f2.f2, .int .i64 d.f3], .box g7 37 #[.int .i64 pen, .int .i64 0]] (keptD Ds))
              (fun cd pre W => cd = .exit 2 ∧ ∃ x : Bk (l.take k) d.f2.f0, pre = [x] ∧ Own w W [.box g3 27 #[.slice A3 k c3], .row k37 37 w.heap.size (.slice A3 k c3) out, .box g6 35 #[.slice A0 d.f0.length c0, .slice A1 d.f1.length c1, .int .i64 d.f2.f0, .int .i64 d.f2.f1, .int .i64 d.f2.f2, .int .i64 d.f3], .box g7 37 #[.int .i64 ((out.getD x.1.1 z37).f0 + x.1.2.f1 - d.f2.f1), .int .i64 ((out.getD x.1.1 z37).f1 + x.1.2.f2 - d.f2.f2)]] (keptD Ds))
              ?hI ?hIx ⟨⟨rfl, Nat.le_refl _⟩, HO6⟩
              (fun x a' W => ∃ g9, a' = { tmps := #[.slice (some ad) l.length c, undef, .slice none 0 0, .pointer (some ⟨g3, 0, none⟩), .int .i64 pen, .int .i64 k, .pointer (some ⟨g6, 0, none⟩), .pointer (some ⟨g7, 0, none⟩), .int .i64 (x.1.1 : Int), .pointer (some ⟨g9, 0, none⟩), .slice (some ad) l.length c, .int .i64 l.length, .bool false, .bool false, .slice (some ad) l.length c, .bool false, .bool false, .slice (some ad) l.length c, .int .i64 l.length, .int .i64 k, .bool true, .int .i64 k, .pointer (some (ad.add (k * 6))), .agg #[.slice A0 d.f0.length c0, .slice A1 d.f1.length c1, .int .i64 d.f2.f0, .int .i64 d.f2.f1, .int .i64 d.f2.f2, .int .i64 d.f3], .int .i64 pen, .agg #[.int .i64 pen, .int .i64 0], .pointer (some ⟨g6, 2, none⟩), .pointer (some ⟨g6, 2, none⟩), .int .i64 d.f2.f0, .bool false, u30, u31, u32, u33, u34, u35, u36, u37, .slice (some ad) l.length c, .int .i64 k, .slice (some ad) k c, .pointer (some ⟨g6, 2, none⟩), .pointer (some ⟨g6, 2, none⟩), .int .i64 d.f2.f0, .func (.func 28) #[] #[.pointer (some ⟨W4.drew.heap.size, 0, none⟩), .pointer (some ⟨W4.drew.heap.size + 1, 0, none⟩)], .int .i64 (x.1.1 : Int), .agg #[.int .i64 x.1.2.f0, .int .i64 x.1.2.f1, .int .i64 x.1.2.f2], u47, u48, u49, u50, u51, u52, u53, u54, u55, u56, u57, u58, u59, u60, u61, u62, u63, u64, u65, u66, u67, u68, u69, u70, u71, u72, u73, u74, u75, u76, undef], defers := [] } ∧ W.heap[g9]? = some (.cells #[.int .i64 x.1.2.f0, .int .i64 x.1.2.f1, .int .i64 x.1.2.f2] 33 (0, 0))) ?hAx ?assign ?body ?done ?stop
            case hI =>
              rintro pre A B row ⟨h1, h2⟩ hg hr
              exact ⟨⟨h1.1, Nat.le_trans h1.2 hg.size⟩, h2.other hg (fun r e => ⟨by have := (hr r e).1; have := HSZ.out; have := HO4L.out; omega, fun o ho => by have := (hr r e).1; have h5 := HKL.out r ho.1; have := HSZ.out; omega, (hr r e).2⟩)⟩
            case hIx =>
              rintro cd pre A B row ⟨h1, x, h3, h2⟩ hg hr
              exact ⟨h1, x, h3, h2.other hg (fun r e => ⟨by have := (hr r e).1; have := HSZ.out; have := HO4L.out; omega, fun o ho => by have := (hr r e).1; have h5 := HKL.out r ho.1; have := HSZ.out; omega, (hr r e).2⟩)⟩
            case hAx =>
              rintro x a' _ A B row ⟨g9, h1, h2⟩ hg hr
              exact ⟨g9, h1, (hg.block g9 (blk_lt h2) (fun e => by obtain ⟨o, ho, hc⟩ := (hr g9 e.symm).2; rw [h2] at ho; cases ho; cases hc)).trans h2⟩
            case assign =>
              rintro lp pre x W K2 ⟨hi1, hi2⟩ hK2
              unfold encB
              gi_wp2
              exact hK2 _ _ ((KeepsOthers.alloc _ _).from _) (below_alloc (Below.refl _ _) _ |>.mono hi1.2) ⟨⟨hi1.1, by rw [World.size_alloc]; have := hi1.2; omega⟩, hi2.alloc _⟩ ⟨W.heap.size, rfl, World.alloc_heap_new W _⟩
            case body =>
              rintro lp pre x a' W hl hrr ⟨⟨rfl, hsW⟩, HOb⟩ ⟨g9, rfl, hg9⟩ hlt
              obtain ⟨hx1, hx2⟩ := backs_lt l d.f2.f0 k x.1 (Eq.mp (congrArg (fun L_ => x.1 ∈ L_) HBK.out) x.2)
              obtain ⟨A9, c9, he9, hl9, hC9⟩ := HOb.row_at 1 rfl
              injection he9 with e1 e2 e3
              subst e1 e3
              obtain ⟨ad3, rfl, v0, v1⟩ := at_T37 hC9 (x.1.1 : Int) (by omega) (by have := HLN.out; omega)
              rw [show rd_T37 out (x.1.1 : Int) = out.getD x.1.1 z37 from rfl] at v0 v1
              rw [Int.toNat_natCast] at v0 v1
              have b3 := HOb.box_cell 0 rfl 0 rfl
              have y3 := HOb.box_cell 2 rfl 3 rfl
              have y4 := HOb.box_cell 2 rfl 4 rfl
              have w1 : W.cell? ⟨g9, 1, none⟩ = some (.int .i64 x.1.2.f1) := (blk_cell hg9 1).trans rfl
              have w2 : W.cell? ⟨g9, 2, none⟩ = some (.int .i64 x.1.2.f2) := (blk_cell hg9 2).trans rfl
              have hm2 : (l.getD x.1.1 z35) ∈ l := by rw [List.getD_eq_getElem?_getD, List.getElem?_eq_getElem (by have := HLN.out; omega)]; exact List.getElem_mem _
              have ha := (right_small (HALL.out _ hm2)).1 _ hx2
              have ho : out.getD x.1.1 z37 ∈ out := by rw [List.getD_eq_getElem?_getD, List.getElem?_eq_getElem (by have := HLN.out; omega)]; exact List.getElem_mem _
              have hob := HBD.out _ ho
              have hix0 : ∀ (a_ : Addr) (w_ : World), (Instr.indexAt 37 (.pointer (some a_)) (.int .i64 0)).run Try.prog w_ = .ok (.pointer (some a_)) w_ := fun a_ w_ => by kernel_rfl
              have hix1 : ∀ (b_ o_ : Nat) (w_ : World), (Instr.indexAt 37 (.pointer (some ⟨b_, o_, none⟩)) (.int .i64 1)).run Try.prog w_ = .ok (.pointer (some ⟨b_, o_ + 1, none⟩)) w_ := fun b_ o_ w_ => by kernel_rfl
              obtain ⟨⟨a1, a2⟩, a3, a4⟩ := ha
              obtain ⟨⟨o1, o2⟩, o3, o4⟩ := hob
              obtain ⟨q, hq⟩ : ∃ q, out.getD x.1.1 z37 = q := ⟨_, rfl⟩
              have HQ := Aside0.mk hq
              rw [hq] at v0 v1 o1 o2 o3 o4
              have HOB := Aside0.mk HOb
              have HOD := (HOb.keep (K' := fun k o => W.heap[k]? = some o ∧ o.isCells = false) (fun _ _ h => h)).drew
              have HWP := Aside0.mk (show IntKind.i64.wrap (IntKind.i64.wrap (q.f0 + x.1.2.f1) - d.f2.f1) = q.f0 + x.1.2.f1 - d.f2.f1 ∧ IntKind.i64.wrap (IntKind.i64.wrap (q.f1 + x.1.2.f2) - d.f2.f2) = q.f1 + x.1.2.f2 - d.f2.f2 by
                have h200 := HLN.out
                rw [IntWalk.i64_in (q.f0 + x.1.2.f1) (by omega), IntWalk.i64_in (q.f1 + x.1.2.f2) (by omega)]
                exact ⟨IntWalk.i64_in _ (by omega), IntWalk.i64_in _ (by omega)⟩)
              clear HOb hC9 hl9 hm2 ho hx2 hst e2 hrr hlt hq hsW
              gi_wp2
              refine round_still_tail 25 (by rfl) (by rintro ⟨_, _, h⟩; exact h) (by kernel_rfl) (by kernel_rfl) ?_
              simp only [List.take_succ_cons, List.take_zero, List.drop_succ_cons, List.drop_zero]
              repeat still_step
              try refine wpStill_nil ?_
              change wpList _ _ _ _ _ W.drew
              clear a1 a2 a3 a4 o1 o2 o3 o4 v0 v1 b3 y3 y4 w1 w2 hix0 hix1
              refine ev_storeS (cs' := #[.int .i64 (q.f0 + x.1.2.f1 - d.f2.f1), .int .i64 (q.f1 + x.1.2.f2 - d.f2.f2)]) (.agg #[.int .i64 (q.f0 + x.1.2.f1 - d.f2.f1), .int .i64 (q.f1 + x.1.2.f2 - d.f2.f2)]) 3 HOD rfl rfl rfl rfl 0 rfl ?hv sz37 (by simp [Value.oneCell', Value.cells]) (Nat.le_refl _) rfl ?_
              case hv => rw [← HWP.out.1, ← HWP.out.2]; rfl
              intro W9 hsz9 HO9
              have HOZ : W.heap.size ≤ W9.heap.size := Nat.le_of_eq hsz9.symm
              clear hsz9
              change Exit.then _ _ Exit.normal _ _
              gi_wp2
              exact ⟨⟨HOZ, fun j o _ h1 h2 => (HO9.keeps j o ⟨h1, h2⟩).1⟩, rfl, x, rfl, by rw [HQ.out]; exact HO9.keep (fun j o h1 => HO9.keeps j o (HOB.out.keeps j o h1))⟩
            case done =>
              rintro D ys W hD hS ⟨⟨rfl, hsW⟩, HOd⟩ hDk
              have hpl : place1 l out pen k = ⟨pen, 0⟩ := by rw [HPL.out, ← HBK.out, ← hS]; rfl
              have HPP := Aside0.mk (show placesN l (k + 1) = (out ++ [⟨pen, 0⟩], pen) by rw [HS.out, hpl, HPN.out])
              have HDS := Aside0.mk (show (D :: Ds).Nodup ∧ ∀ D' ∈ D :: Ds, w.heap.size ≤ D' from ⟨List.nodup_cons.mpr ⟨fun hm => by have := HKL.out D hm; have := HSZ.out; omega, HN.out.1⟩, fun D' h' => by
                rcases List.mem_cons.mp h' with rfl | h'
                · have := HSZ.out; have := HO4L.out; omega
                · exact HN.out.2 D' h'⟩)
              have HO4 := HOd.keep (K' := keptD (D :: Ds)) (fun j o h1 => by
                rcases List.mem_cons.mp h1.1 with h2 | h2
                · subst h2; obtain ⟨_, rfl⟩ := h1; exact ⟨hDk, rfl⟩
                · exact HOd.keeps j o ⟨h2, h1.2⟩)
              have b3 := HO4.box_cell 0 rfl 0 rfl
              have z0 := HO4.box_cell 3 rfl 0 rfl
              have z1 := HO4.box_cell 3 rfl 1 rfl
              clear HOd hpl hDk hst hD
              go_wp2_with (first
              | ((with_reducible refine gate_builtin (b := .append) (xs := #[.tmp 72, .tmp 74]) rfl ?_); at_builtin; go_loud (refine ev_append 1 HO4 rfl rfl (.tmp 72) (.tmp 74) 27 (.agg #[.int .i64 0, .int .i64 0]) 16 rfl Try.underlying27 hinfo37 rfl (by decide) (by decide) (⟨pen, 0⟩ : S37) [.int .i64 pen, .int .i64 0] rfl rfl (k37_mkM _ _ _ _) ?aL ?_); (case aL => have := HLN.out; omega); intro A5 c5 W5 HO5; clear HO4 b3 z0 z1)
              | ((with_reducible refine gate_store (t := 27) (p := 3) rfl ?_); refine ev_store (cs' := #[.slice A5 (out.length + 1) c5]) (.slice A5 (out.length + 1) c5) 0 HO5 rfl rfl rfl rfl 0 rfl rfl sz27 (by simp [Value.oneCell', Value.cells]) (Nat.le_refl _) rfl ?_; intro W6 HO6; clear HO5))
              refine HKK.out _ _ (Handed.intro (l.length - (k + 1)) (by have := HG.out; have := HLN.out; omega) (HJ.out _ _ _ ⟨k + 1, (k : Int) + 1, pen, out ++ [⟨pen, 0⟩], A5, c5, D :: Ds, _, _, _, _, _, _, _, _, _, _, _, _, _, _, _, _, _, _, _, _, _, _, _, _, _, _, _, _, _, _, _, _, _, _, _, _, _, _, _, _, _, _, _, _, _, _, _, _, _, _, _, _, _, _, _, _, _, _, _, _, _, _, rfl, by omega, ⟨by have := HLN.out; omega⟩, ⟨rfl⟩, HPP, ⟨?_⟩, HDS⟩))
              have h := HO6.upto 2
              rw [HLN.out.1] at h
              exact h
            case stop =>
              rintro D cd pre W hD hSp ⟨rfl, x, rfl, HOd⟩ hDk
              have hpl : place1 l out pen k = ⟨(out.getD x.1.1 z37).f0 + x.1.2.f1 - d.f2.f1, (out.getD x.1.1 z37).f1 + x.1.2.f2 - d.f2.f2⟩ := by
                obtain ⟨t, ht⟩ := hSp
                have ht2 := ht.trans HBK.out
                rw [HPL.out, ← ht2]
                rfl
              generalize (out.getD x.1.1 z37).f0 + x.1.2.f1 - d.f2.f1 = q0 at *
              generalize (out.getD x.1.1 z37).f1 + x.1.2.f2 - d.f2.f2 = q1 at *
              gi_wp2
              have HPP := Aside0.mk (show placesN l (k + 1) = (out ++ [⟨q0, q1⟩], pen) by rw [HS.out, hpl, HPN.out])
              have HDS := Aside0.mk (show (D :: Ds).Nodup ∧ ∀ D' ∈ D :: Ds, w.heap.size ≤ D' from ⟨List.nodup_cons.mpr ⟨fun hm => by have := HKL.out D hm; have := HSZ.out; omega, HN.out.1⟩, fun D' h' => by
                rcases List.mem_cons.mp h' with rfl | h'
                · have := HSZ.out; have := HO4L.out; omega
                · exact HN.out.2 D' h'⟩)
              have HO4 := HOd.keep (K' := keptD (D :: Ds)) (fun j o h1 => by
                rcases List.mem_cons.mp h1.1 with h2 | h2
                · subst h2; obtain ⟨_, rfl⟩ := h1; exact ⟨hDk, rfl⟩
                · exact HOd.keeps j o ⟨h2, h1.2⟩)
              have b3 := HO4.box_cell 0 rfl 0 rfl
              have z0 := HO4.box_cell 3 rfl 0 rfl
              have z1 := HO4.box_cell 3 rfl 1 rfl
              clear HOd hpl hDk hst hD
              go_wp2_with (first
              | ((with_reducible refine gate_builtin (b := .append) (xs := #[.tmp 72, .tmp 74]) rfl ?_); at_builtin; go_loud (refine ev_append 1 HO4 rfl rfl (.tmp 72) (.tmp 74) 27 (.agg #[.int .i64 0, .int .i64 0]) 16 rfl Try.underlying27 hinfo37 rfl (by decide) (by decide) (⟨q0, q1⟩ : S37) [.int .i64 q0, .int .i64 q1] rfl rfl (k37_mkM _ _ _ _) ?aL ?_); (case aL => have := HLN.out; omega); intro A5 c5 W5 HO5; clear HO4 b3 z0 z1)
              | ((with_reducible refine gate_store (t := 27) (p := 3) rfl ?_); refine ev_store (cs' := #[.slice A5 (out.length + 1) c5]) (.slice A5 (out.length + 1) c5) 0 HO5 rfl rfl rfl rfl 0 rfl rfl sz27 (by simp [Value.oneCell', Value.cells]) (Nat.le_refl _) rfl ?_; intro W6 HO6; clear HO5))
              refine HKK.out _ _ (Handed.intro (l.length - (k + 1)) (by have := HG.out; have := HLN.out; omega) (HJ.out _ _ _ ⟨k + 1, (k : Int) + 1, pen, out ++ [⟨q0, q1⟩], A5, c5, D :: Ds, _, _, _, _, _, _, _, _, _, _, _, _, _, _, _, _, _, _, _, _, _, _, _, _, _, _, _, _, _, _, _, _, _, _, _, _, _, _, _, _, _, _, _, _, _, _, _, _, _, _, _, _, _, _, _, _, _, _, _, _, _, _, rfl, by omega, ⟨by have := HLN.out; omega⟩, ⟨rfl⟩, HPP, ⟨?_⟩, HDS⟩))
              have h := HO6.upto 2
              rw [HLN.out.1] at h
              exact h
        · have hkl : k = l.length := by have := HK.out; omega
          subst hkl
          have q1 : ¬ (l.length : Int) < (l.length : Int) := by omega
          have b3 := HO.box_cell 0 rfl 0 rfl
          clear hlt
          go_wp2
          refine leaves_marks (fun W' HW => ⟨_, results_tmp rfl _ _ _, _, rfl, ?_, HW.below⟩) Ds wr HO HN.out.1 HN.out.2
          have h3 := HW.row_R 1 rfl
          rw [HF.out, HP.out]
          exact h3

end Go.Proofs.Ytnnkbcgoockniaa.Q

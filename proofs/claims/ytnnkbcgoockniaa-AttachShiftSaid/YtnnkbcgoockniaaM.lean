/- AttachRaw's walk. -/
import Derived.Test.YtnnkbcgoockniaaG
import Derived.Test.YtnnkbcgoockniaaK
namespace Go.Proofs.Ytnnkbcgoockniaa.Q
open Go.RowKit Go.Shelf Go.Proofs.YtnnkbcgoockniaaW.PrintWords Go.Proofs.YtnnkbcgoockniaaW.PrintLast Go.Proofs.YtnnkbcgoockniaaW.PrintMore
set_option linter.unusedSimpArgs false
set_option linter.unusedVariables false
section
variable {P : Program} {ops : Array Oper} {Q : Exit → Act → World → Prop} {o : Oper} {rest : List Oper} {a : Act} {w W : World} {L : List Res} {K : Nat → Obj → Prop}
/-- append of a row, the new row and its length as the caller writes them. -/
theorem ev_rowsz {α : Type} {d : Kd α} {e : Nat} {v : Value} {xs : List α} {Rr : α → List Value → Prop} (i : Nat) (HO : Own w W L K) (hi : L[i]? = some (.row d e w.heap.size v xs)) (hgd : o.guard = none) (s x : Operand) (t : TypeId) (z : Value) (bytes : Nat)
    (ho : o.op = .call { callee := .builtin .append, args := #[s, x], argTypes := #[t, t] })
    (ht : P.underlying t = some (.slice e)) (hinfo : (P.info? e).map (fun i => (i.zero, i.size, i.bytes)) = some (some z, d.sz, bytes)) (hz : z.cells.size = d.sz) (hs0 : 0 < d.sz) (hb0 : 0 < bytes)
    (ys : List α) (A1 : Option Addr) (m c1 : Nat) (zs : List α) (n : Nat) (hm : ys.length = m) (hzs : xs ++ ys = zs) (hn : zs.length = n) (hs : a.eval s = v) (hx : a.eval x = .slice A1 m c1) (HR : ReadsRow Rr d.sz W A1 ys.length ys) (hKM : ∀ x cs, Rr x cs → d.M W w.heap.size (fun _ => False) x cs) (hl : (xs.length + m) * bytes ≤ 140737488355328)
    (h : ∀ A c W', Own w W' (L.set i (.row d e w.heap.size (.slice A n c) zs)) K → wpList P ops Q rest (a.put o.dst (.slice A n c)) W') : wpList P ops Q (o :: rest) a W := by
  subst hm
  subst hzs
  subst hn
  exact ev_rows i HO hi hgd s x t z bytes ho ht hinfo hz hs0 hb0 ys A1 c1 hs hx HR hKM hl h
end
theorem own13 {A : Option Addr} {c n : Nat} {r : List S35} {W0 : World} (hn : r.length = n) (hC : k35.C W0 A r.length r) (hl : n ≤ c) {q : List S37} (hF : placesF r = q) (W : World) (hb : Below W0.heap.size W0 W) :
    Calls Try.prog 13 #[.slice A n c] W fun e w' => ∃ v, e = .returned v ∧ Kd.R k37 37 w' W.heap.size (fun _ => True) v q ∧ Below W.heap.size W w' := by
  subst hn
  subst hF
  exact places_calls A c r W (Kd.C_below hC hb) hl
theorem own14 {A : Option Addr} {c n : Nat} {r : List S35} {W0 : World} (hn : r.length = n) (hC : k35.C W0 A r.length r) (hl : n ≤ c) {q : List S37} (hF : placesF r = q) (W : World) (hb : Below W0.heap.size W0 W) :
    Calls Try.prog 14 #[.slice A n c] W fun e w' => ∃ v, e = .returned v ∧ Kd.R k37 37 w' W.heap.size (fun _ => True) v q ∧ Below W.heap.size W w' := by
  subst hn
  subst hF
  exact refplaces_calls A c r W (Kd.C_below hC hb) hl
def cut5 (x : S35) : S35 := ⟨x.f0, x.f1.take 5, x.f2, x.f3⟩
theorem take5_le (xs : List S33) (m : Nat) (hm : m = if xs.length ≤ 5 then xs.length else 5) : (xs.take 5).length = m := by
  rw [List.length_take, hm]
  split <;> omega
set_option maxRecDepth 100000 in
set_option maxHeartbeats 8000000 in
theorem attachRaw_calls (A : Option Addr) (c : Nat) (raw : List S35) (B : Option Addr) (b : Nat) (l : List (List Int)) (w : World) (hd : k35.C w A raw.length raw) (hc : raw.length ≤ c) (hr : Kd.C (Kd.slice 3 (Kd.int .i64)) w B l.length l) (hb : l.length ≤ b) :
    Calls Try.prog 4 #[.slice A raw.length c, .slice B l.length b] w fun e w' => e = .returned (.bool true) ∧ Below w.heap.size w w' := by
  have HD := Aside0.mk hd
  have HC := Aside0.mk hc
  have HR := Aside0.mk hr
  have HB := Aside0.mk hb
  have HL := Aside0.mk (grid_len hr rfl)
  have hlm : (raw.length : Int) ≤ 9223372036854775807 := by have := Kd.C_max hd; omega
  obtain ⟨ks, hs⟩ := saneK
  have HS := Aside0.mk hs
  obtain ⟨d, hmd⟩ : ∃ d, madeF l = d := ⟨_, rfl⟩
  have HM := Aside0.mk hmd
  have HDL := Aside0.mk (show d.length ≤ 12 by rw [← hmd]; unfold madeF; rw [List.length_map, List.length_take]; omega)
  have HO := Own.start w
  clear hd hc hr hb hs hmd
  go_enter Try.func4, Try.ntmps4
  go_wp2_with (first
    | (go_at_call 10; (with_reducible refine (abugidalaw19_sanity.calls ks true _ HS.out).mono ?_); rintro e W1 ⟨rfl, hb1⟩; have HO1 := (HO.grow hb1).newrow (Kd.old k35 w) 35; clear HO hb1))
  go_loopw [6, 7] (fun v6 v7 w' => ∃ (k : Nat) (out : List S35) (A6 : Option Addr) (c6 : Nat), v7 = .int .i64 k ∧ v6 = .slice A6 k c6 ∧ Aside0 (k ≤ raw.length ∧ k ≤ 12) ∧ Aside0 (out = (raw.take k).map cut5) ∧ Aside0 (Own w w' [.row (Kd.old k35 w) 35 w.heap.size (.slice A6 k c6) out])) (fun _ v7 _ => raw.length - (intOf v7).toNat)
  case atStart => exact ⟨0, [], none, 0, rfl, rfl, ⟨Nat.zero_le _, by omega⟩, ⟨rfl⟩, ⟨HO1⟩⟩
  case round =>
    clear HO1
    obtain ⟨k, out, A6, c6, rfl, rfl, HK, HOUT, HOO⟩ := hrel
    have HO := HOO.out
    clear HOO
    have HOL := Aside0.mk (show out.length = k by rw [HOUT.out, List.length_map, List.length_take]; have := HK.out; omega)
    by_cases hin : k < raw.length ∧ k < 12
    case pos =>
      obtain ⟨hlt, h12⟩ := hin
      have q1 : ((k : Int) < (raw.length : Int)) = True := eq_true (by omega)
      have q2 : ((k : Int) < 12) = True := eq_true (by omega)
      have p1 : (0 ≤ (k : Int)) = True := eq_true (by omega)
      obtain ⟨ad, A0, c0, A1, c1, rfl, x0, x1, x2, x3, x4, x5, y0, y1, y2, y3⟩ := at_T35 HD.out (k : Int) (by omega) (by omega)
      rw [show rd_T35 raw (k : Int) = raw.getD k z35 from rfl, Int.toNat_natCast] at x0 x1 x2 x3 x4 x5
      rw [show rd_T35 raw (k : Int) = raw.getD k z35 from rfl] at y0 y1 y2 y3
      have HNX := Aside0.mk (show (raw.take (k + 1)).map cut5 = out ++ [cut5 (raw.getD k z35)] by rw [HOUT.out, List.take_succ_eq_append_getElem hlt, List.map_append, List.getD_eq_getElem?_getD, List.getElem?_eq_getElem hlt]; rfl)
      have HLN := Aside0.mk (show out.length = k ∧ k < 12 ∧ k < raw.length by have := HOL.out; omega)
      obtain ⟨x, hx⟩ : ∃ x, raw.getD k z35 = x := ⟨_, rfl⟩
      rw [hx] at x0 x1 x2 x3 x4 x5 y0 y1 y2 y3 HNX
      replace x0 := pw_cell_below HO.below x0
      replace x1 := pw_cell_below HO.below x1
      replace x2 := pw_cell_below HO.below x2
      replace x3 := pw_cell_below HO.below x3
      replace x4 := pw_cell_below HO.below x4
      replace x5 := pw_cell_below HO.below x5
      have hkb : (k : Int) + 1 ≤ 12 := by omega
      obtain ⟨m, hm5⟩ : ∃ m : Nat, m = if x.f1.length ≤ 5 then x.f1.length else 5 := ⟨_, rfl⟩
      have HT5 := Aside0.mk (take5_le x.f1 m hm5)
      have hmc : m ≤ c1 := by rw [hm5]; split <;> omega
      have hmL : m ≤ x.f1.length := by rw [hm5]; split <;> omega
      have HKX := Aside0.mk (show k35.K w (cut5 x) [.slice A0 x.f0.length c0, .slice A1 m c1, .int .i64 x.f2.f0, .int .i64 x.f2.f1, .int .i64 x.f2.f2, .int .i64 x.f3] by
        have h1 : k33.C w A1 (x.f1.take 5).length (x.f1.take 5) := by
          have h := Kd.C_take (m := m) y3 hmL
          have e : x.f1.take m = x.f1.take 5 := by
            rw [hm5]; split
            · rename_i h5; rw [List.take_of_length_le (Nat.le_refl _), List.take_of_length_le h5]
            · rfl
          rw [e] at h
          exact h
        have h2 := k35_mk w (cut5 x) (A0 := A0) (c0 := c0) y0 y1 (A1 := A1) (c1 := c1) (show (x.f1.take 5).length ≤ c1 by rw [HT5.out]; exact hmc) h1
        rw [show (cut5 x).f1.length = m from HT5.out] at h2
        exact h2)
      have hb5 : x.f1.length ≤ 9223372036854775807 := Kd.C_max y3
      clear hlt h12 hx y0 y1 y2 y3
      by_cases h5 : x.f1.length ≤ 5
      case pos =>
        rw [if_pos h5] at hm5
        subst hm5
        have i0 : ¬ ((5 : Int) < (x.f1.length : Int)) := by omega
        have i00 : ((x.f1.length : Int) ≤ 5) = True := eq_true (by omega)
        have i1 : ((x.f1.length : Int) ≤ (c1 : Int)) = True := eq_true (by omega)
        have i2 : (x.f1.length ≤ c1) = True := eq_true (by omega)
        have i3 : (0 ≤ (x.f1.length : Int)) = True := eq_true (by omega)
        clear hmc hmL h5
        go_wp2_with (first
          | ((with_reducible refine gate_dst (N := 8) rfl ?_); refine ev_box (N := 8) (cs := #[.slice none 0 0, .slice none 0 0, .int .i64 0, .int .i64 0, .int .i64 0, .int .i64 0]) (t := 35) HO rfl rfl ?hr ?_; (case hr => first | (go_simp; done) | (go_simp; rfl)); intro g8 W4 HO4 hb4; clear HO hb4 x0 x1 x2 x3 x4 x5)
          | ((with_reducible refine gate_store (t := 35) (p := 8) rfl ?_); refine ev_store (cs' := #[.slice A0 x.f0.length c0, .slice A1 x.f1.length c1, .int .i64 x.f2.f0, .int .i64 x.f2.f1, .int .i64 x.f2.f2, .int .i64 x.f3]) (.agg #[.slice A0 x.f0.length c0, .slice A1 x.f1.length c1, .int .i64 x.f2.f0, .int .i64 x.f2.f1, .int .i64 x.f2.f2, .int .i64 x.f3]) 1 HO4 rfl rfl rfl rfl 0 rfl rfl sz35 (by simp [Value.oneCell', Value.cells]) (Nat.le_refl _) rfl ?_; intro W5 HO5; clear HO4; have z1 := HO5.box_cell 1 rfl 1 rfl)
          | ((with_reducible refine gate_store (t := 31) (p := 33) rfl ?_); refine ev_store (cs' := #[.slice A0 x.f0.length c0, .slice A1 x.f1.length c1, .int .i64 x.f2.f0, .int .i64 x.f2.f1, .int .i64 x.f2.f2, .int .i64 x.f3]) (.slice A1 x.f1.length c1) 1 HO5 rfl rfl rfl rfl 1 rfl rfl (by kernel_rfl) (by simp [Value.oneCell', Value.cells]) (Nat.le_add_left 2 4) rfl ?_; intro W6 HO6; clear HO5 z1; have z0 := HO6.box_cell 1 rfl 0 rfl; have z1 := HO6.box_cell 1 rfl 1 rfl; have z2 := HO6.box_cell 1 rfl 2 rfl; have z3 := HO6.box_cell 1 rfl 3 rfl; have z4 := HO6.box_cell 1 rfl 4 rfl; have z5 := HO6.box_cell 1 rfl 5 rfl)
          | ((with_reducible refine gate_builtin (b := .append) (xs := #[.tmp 34, .tmp 36]) rfl ?_); at_builtin; refine ev_append (d := Kd.old k35 w) 0 HO6 rfl rfl (.tmp 34) (.tmp 36) 24 (.agg #[.slice none 0 0, .slice none 0 0, .int .i64 0, .int .i64 0, .int .i64 0, .int .i64 0]) 80 rfl Try.underlying24 info35 rfl (Nat.succ_pos 5) (by decide) (cut5 x) [.slice A0 x.f0.length c0, .slice A1 x.f1.length c1, .int .i64 x.f2.f0, .int .i64 x.f2.f1, .int .i64 x.f2.f2, .int .i64 x.f3] rfl rfl HKX.out ?aL ?_; (case aL => have := HLN.out; omega); intro A9 c9 W9 HO9; clear HO6 z0 z1 z2 z3 z4 z5))
        go_roundw
        case rel => exact ⟨k + 1, out ++ [cut5 x], A9, c9, by go_num, by rw [HLN.out.1], ⟨by have := HLN.out; omega⟩, ⟨by rw [HNX.out]⟩, ⟨by have h := HO9.upto 1; rw [HLN.out.1] at h; exact h⟩⟩
        case measure => have := HLN.out; simp [intOf]; omega
      case neg =>
        rw [if_neg h5] at hm5
        subst hm5
        have i0 : ((5 : Int) < (x.f1.length : Int)) = True := eq_true (by omega)
        have i00 : ¬ ((x.f1.length : Int) ≤ 5) := by omega
        have i1 : ((5 : Int) ≤ (c1 : Int)) = True := eq_true (by omega)
        have i2 : (5 ≤ c1) = True := eq_true (by omega)
        clear hmc hmL h5
        go_wp2_with (first
          | ((with_reducible refine gate_dst (N := 8) rfl ?_); refine ev_box (N := 8) (cs := #[.slice none 0 0, .slice none 0 0, .int .i64 0, .int .i64 0, .int .i64 0, .int .i64 0]) (t := 35) HO rfl rfl ?hr ?_; (case hr => first | (go_simp; done) | (go_simp; rfl)); intro g8 W4 HO4 hb4; clear HO hb4 x0 x1 x2 x3 x4 x5)
          | ((with_reducible refine gate_store (t := 35) (p := 8) rfl ?_); refine ev_store (cs' := #[.slice A0 x.f0.length c0, .slice A1 x.f1.length c1, .int .i64 x.f2.f0, .int .i64 x.f2.f1, .int .i64 x.f2.f2, .int .i64 x.f3]) (.agg #[.slice A0 x.f0.length c0, .slice A1 x.f1.length c1, .int .i64 x.f2.f0, .int .i64 x.f2.f1, .int .i64 x.f2.f2, .int .i64 x.f3]) 1 HO4 rfl rfl rfl rfl 0 rfl rfl sz35 (by simp [Value.oneCell', Value.cells]) (Nat.le_refl _) rfl ?_; intro W5 HO5; clear HO4; have z1 := HO5.box_cell 1 rfl 1 rfl)
          | ((with_reducible refine gate_store (t := 31) (p := 33) rfl ?_); refine ev_store (cs' := #[.slice A0 x.f0.length c0, .slice A1 5 c1, .int .i64 x.f2.f0, .int .i64 x.f2.f1, .int .i64 x.f2.f2, .int .i64 x.f3]) (.slice A1 5 c1) 1 HO5 rfl rfl rfl rfl 1 rfl rfl (by kernel_rfl) (by simp [Value.oneCell', Value.cells]) (Nat.le_add_left 2 4) rfl ?_; intro W6 HO6; clear HO5 z1; have z0 := HO6.box_cell 1 rfl 0 rfl; have z1 := HO6.box_cell 1 rfl 1 rfl; have z2 := HO6.box_cell 1 rfl 2 rfl; have z3 := HO6.box_cell 1 rfl 3 rfl; have z4 := HO6.box_cell 1 rfl 4 rfl; have z5 := HO6.box_cell 1 rfl 5 rfl)
          | ((with_reducible refine gate_builtin (b := .append) (xs := #[.tmp 34, .tmp 36]) rfl ?_); at_builtin; refine ev_append (d := Kd.old k35 w) 0 HO6 rfl rfl (.tmp 34) (.tmp 36) 24 (.agg #[.slice none 0 0, .slice none 0 0, .int .i64 0, .int .i64 0, .int .i64 0, .int .i64 0]) 80 rfl Try.underlying24 info35 rfl (Nat.succ_pos 5) (by decide) (cut5 x) [.slice A0 x.f0.length c0, .slice A1 5 c1, .int .i64 x.f2.f0, .int .i64 x.f2.f1, .int .i64 x.f2.f2, .int .i64 x.f3] rfl rfl HKX.out ?aL ?_; (case aL => have := HLN.out; omega); intro A9 c9 W9 HO9; clear HO6 z0 z1 z2 z3 z4 z5))
        go_roundw
        case rel => exact ⟨k + 1, out ++ [cut5 x], A9, c9, by go_num, by rw [HLN.out.1], ⟨by have := HLN.out; omega⟩, ⟨by rw [HNX.out]⟩, ⟨by have h := HO9.upto 1; rw [HLN.out.1] at h; exact h⟩⟩
        case measure => have := HLN.out; simp [intOf]; omega
    case neg =>
      obtain ⟨km, hkm⟩ := sameK (placesF out) (by have := placesF_length out; omega)
      have HKM := Aside0.mk hkm
      obtain ⟨pb, hpb⟩ : ∃ pb, placesF (d ++ out ++ d) = pb := ⟨_, rfl⟩
      have HPB := Aside0.mk hpb
      obtain ⟨kn, hkn⟩ := sameK pb (by have := placesF_length (d ++ out ++ d); rw [hpb] at this; omega)
      have HKN := Aside0.mk hkn
      clear hkm hkn hpb
      by_cases hlt : k < raw.length
      case pos =>
        have q1 : ((k : Int) < (raw.length : Int)) = True := eq_true (by omega)
        have q2 : ¬ ((k : Int) < 12) := by omega
        clear hin hlt
        go_wp2_with (first
          | (go_at_call 11; (with_reducible refine (made_calls B b l _ (HO.old HR.out) HB.out HL.out).mono ?_); rintro e W2 ⟨v2, rfl, hR2, hb2⟩; rw [HM.out] at hR2; have HO2 := HO.called hb2 hR2; clear HO hR2 hb2; obtain ⟨A2, c2, rfl, hl2, hC2⟩ := HO2.row_at 1 rfl; obtain ⟨-, hl6, hC6⟩ := HO2.row_sl 0 rfl; have HBW := Aside0.mk HO2.below; have HCO := Aside0.mk (Kd.C_old hC6 HO2.below); have HCD := Aside0.mk hC2; have HL6 := Aside0.mk hl6; have HL2 := Aside0.mk hl2; have HN := Own.start W2; clear HO2 hl2 hC2 hl6 hC6)
          | ((with_reducible refine gate_dst (N := 40) rfl ?_); refine ev_lit (Kd.old k35 W2) 35 (N := 40) (xs := []) (inner := []) HN rfl rfl ?hr ?hp (by decide) ?_; (case hr => first | (go_simp; done) | (go_simp; rfl)); (case hp => exact Reps.none _ _); intro A3 c3 W3 HO3 hb3; clear HN hb3)
          | ((with_reducible refine gate_builtin (b := .append) (xs := #[.tmp 40, .tmp 41]) rfl ?_); at_builtin; refine ev_rowsz 0 HO3 rfl rfl (.tmp 40) (.tmp 41) 24 (.agg #[.slice none 0 0, .slice none 0 0, .int .i64 0, .int .i64 0, .int .i64 0, .int .i64 0]) 80 rfl Try.underlying24 info35 rfl (Nat.succ_pos 5) (by decide) d A2 d.length c2 d d.length rfl rfl rfl rfl rfl (ReadsRow.imp_ HCD.out HO3.below (fun _ _ h => h)) (fun _ _ h => h) (by have := HDL.out; simp; omega) ?_; intro A4 c4 W4 HO4; clear HO3)
          | ((with_reducible refine gate_builtin (b := .append) (xs := #[.tmp 42, .tmp 43]) rfl ?_); at_builtin; refine ev_rowsz 0 HO4 rfl rfl (.tmp 42) (.tmp 43) 24 (.agg #[.slice none 0 0, .slice none 0 0, .int .i64 0, .int .i64 0, .int .i64 0, .int .i64 0]) 80 rfl Try.underlying24 info35 rfl (Nat.succ_pos 5) (by decide) out A6 k c6 (d ++ out) (d.length + k) HOL.out rfl (by rw [List.length_append, HOL.out]) rfl rfl (ReadsRow.imp_ HCO.out HO4.below (fun _ _ h => h)) (fun _ _ h => h) (by have := HDL.out; have := HK.out; omega) ?_; intro A5 c5 W5 HO5; clear HO4)
          | ((with_reducible refine gate_builtin (b := .append) (xs := #[.tmp 44, .tmp 45]) rfl ?_); at_builtin; refine ev_rowsz 0 HO5 rfl rfl (.tmp 44) (.tmp 45) 24 (.agg #[.slice none 0 0, .slice none 0 0, .int .i64 0, .int .i64 0, .int .i64 0, .int .i64 0]) 80 rfl Try.underlying24 info35 rfl (Nat.succ_pos 5) (by decide) d A2 d.length c2 (d ++ out ++ d) (d.length + k + d.length) rfl rfl (by rw [List.length_append, List.length_append, HOL.out]) rfl rfl (ReadsRow.imp_ HCD.out HO5.below (fun _ _ h => h)) (fun _ _ h => h) (by have := HDL.out; have := HK.out; rw [List.length_append, HOL.out]; omega) ?_; intro A7 c7 W7 HO7; clear HO5; have HCB := Aside0.mk (Kd.C_old (HO7.row_sl 0 rfl).2.2 HO7.below); have HLB := Aside0.mk (HO7.row_sl 0 rfl).2.1; have HBL := Aside0.mk (HO7.row_sl 0 rfl).1; have h13 := own13 HOL.out HCO.out HL6.out rfl _ HO7.below)
          | (go_at_call 13; (with_reducible refine h13.mono ?_); rintro e W8 ⟨v8, rfl, hR8, hb8⟩; have HO8 := HO7.called hb8 hR8; clear HO7 hR8 hb8 h13; have h14 := own14 HOL.out HCO.out HL6.out rfl _ HO8.below)
          | (go_at_call 14; (with_reducible refine h14.mono ?_); rintro e W9 ⟨v9, rfl, hR9, hb9⟩; have HO9 := HO8.called hb9 hR9; clear HO8 hR9 hb9 h14; obtain ⟨A8, c8, rfl, hl8, hC8⟩ := HO9.row_at 1 rfl; obtain ⟨A9, c9, rfl, hl9, hC9⟩ := HO9.row_at 2 rfl)
          | (go_at_call 12; (with_reducible refine (abugidaref19_Same.calls km A8 c8 _ A9 c9 _ true _ hC8 hl8 hC9 hl9 HKM.out).mono ?_); rintro e W10 ⟨rfl, hdb⟩; have HO10 := HO9.grow hdb.below; clear HO9 hdb hC8 hC9 hl8 hl9; have h13 := own13 HBL.out.symm (Kd.C_old (HO10.row_sl 0 rfl).2.2 HO10.below) HLB.out HPB.out _ (Below.refl _ _))
          | (go_at_call 13; (with_reducible refine h13.mono ?_); rintro e W11 ⟨v11, rfl, hR11, hb11⟩; have HO11 := HO10.called hb11 hR11; clear HO10 hR11 hb11 h13; have h14 := own14 HBL.out.symm (Kd.C_old (HO11.row_sl 0 rfl).2.2 HO11.below) HLB.out HPB.out _ (Below.refl _ _))
          | (go_at_call 14; (with_reducible refine h14.mono ?_); rintro e W12 ⟨v12, rfl, hR12, hb12⟩; have HO12 := HO11.called hb12 hR12; clear HO11 hR12 hb12 h14; obtain ⟨A11, c11, rfl, hl11, hC11⟩ := HO12.row_at 3 rfl; obtain ⟨A12, c12, rfl, hl12, hC12⟩ := HO12.row_at 4 rfl)
          | (go_at_call 12; (with_reducible refine (abugidaref19_Same.calls kn A11 c11 _ A12 c12 _ true _ hC11 hl11 hC12 hl12 HKN.out).mono ?_); rintro e W13 ⟨rfl, hdb⟩; have HO13 := HO12.grow hdb.below; clear HO12 hdb hC11 hC12 hl11 hl12))
        go_ret
        exact ⟨rfl, below_step HBW.out HO13.below⟩
      case neg =>
        have q1 : ¬ ((k : Int) < (raw.length : Int)) := by omega
        clear hin hlt
        go_wp2_with (first
          | (go_at_call 11; (with_reducible refine (made_calls B b l _ (HO.old HR.out) HB.out HL.out).mono ?_); rintro e W2 ⟨v2, rfl, hR2, hb2⟩; rw [HM.out] at hR2; have HO2 := HO.called hb2 hR2; clear HO hR2 hb2; obtain ⟨A2, c2, rfl, hl2, hC2⟩ := HO2.row_at 1 rfl; obtain ⟨-, hl6, hC6⟩ := HO2.row_sl 0 rfl; have HBW := Aside0.mk HO2.below; have HCO := Aside0.mk (Kd.C_old hC6 HO2.below); have HCD := Aside0.mk hC2; have HL6 := Aside0.mk hl6; have HL2 := Aside0.mk hl2; have HN := Own.start W2; clear HO2 hl2 hC2 hl6 hC6)
          | ((with_reducible refine gate_dst (N := 40) rfl ?_); refine ev_lit (Kd.old k35 W2) 35 (N := 40) (xs := []) (inner := []) HN rfl rfl ?hr ?hp (by decide) ?_; (case hr => first | (go_simp; done) | (go_simp; rfl)); (case hp => exact Reps.none _ _); intro A3 c3 W3 HO3 hb3; clear HN hb3)
          | ((with_reducible refine gate_builtin (b := .append) (xs := #[.tmp 40, .tmp 41]) rfl ?_); at_builtin; refine ev_rowsz 0 HO3 rfl rfl (.tmp 40) (.tmp 41) 24 (.agg #[.slice none 0 0, .slice none 0 0, .int .i64 0, .int .i64 0, .int .i64 0, .int .i64 0]) 80 rfl Try.underlying24 info35 rfl (Nat.succ_pos 5) (by decide) d A2 d.length c2 d d.length rfl rfl rfl rfl rfl (ReadsRow.imp_ HCD.out HO3.below (fun _ _ h => h)) (fun _ _ h => h) (by have := HDL.out; simp; omega) ?_; intro A4 c4 W4 HO4; clear HO3)
          | ((with_reducible refine gate_builtin (b := .append) (xs := #[.tmp 42, .tmp 43]) rfl ?_); at_builtin; refine ev_rowsz 0 HO4 rfl rfl (.tmp 42) (.tmp 43) 24 (.agg #[.slice none 0 0, .slice none 0 0, .int .i64 0, .int .i64 0, .int .i64 0, .int .i64 0]) 80 rfl Try.underlying24 info35 rfl (Nat.succ_pos 5) (by decide) out A6 k c6 (d ++ out) (d.length + k) HOL.out rfl (by rw [List.length_append, HOL.out]) rfl rfl (ReadsRow.imp_ HCO.out HO4.below (fun _ _ h => h)) (fun _ _ h => h) (by have := HDL.out; have := HK.out; omega) ?_; intro A5 c5 W5 HO5; clear HO4)
          | ((with_reducible refine gate_builtin (b := .append) (xs := #[.tmp 44, .tmp 45]) rfl ?_); at_builtin; refine ev_rowsz 0 HO5 rfl rfl (.tmp 44) (.tmp 45) 24 (.agg #[.slice none 0 0, .slice none 0 0, .int .i64 0, .int .i64 0, .int .i64 0, .int .i64 0]) 80 rfl Try.underlying24 info35 rfl (Nat.succ_pos 5) (by decide) d A2 d.length c2 (d ++ out ++ d) (d.length + k + d.length) rfl rfl (by rw [List.length_append, List.length_append, HOL.out]) rfl rfl (ReadsRow.imp_ HCD.out HO5.below (fun _ _ h => h)) (fun _ _ h => h) (by have := HDL.out; have := HK.out; rw [List.length_append, HOL.out]; omega) ?_; intro A7 c7 W7 HO7; clear HO5; have HCB := Aside0.mk (Kd.C_old (HO7.row_sl 0 rfl).2.2 HO7.below); have HLB := Aside0.mk (HO7.row_sl 0 rfl).2.1; have HBL := Aside0.mk (HO7.row_sl 0 rfl).1; have h13 := own13 HOL.out HCO.out HL6.out rfl _ HO7.below)
          | (go_at_call 13; (with_reducible refine h13.mono ?_); rintro e W8 ⟨v8, rfl, hR8, hb8⟩; have HO8 := HO7.called hb8 hR8; clear HO7 hR8 hb8 h13; have h14 := own14 HOL.out HCO.out HL6.out rfl _ HO8.below)
          | (go_at_call 14; (with_reducible refine h14.mono ?_); rintro e W9 ⟨v9, rfl, hR9, hb9⟩; have HO9 := HO8.called hb9 hR9; clear HO8 hR9 hb9 h14; obtain ⟨A8, c8, rfl, hl8, hC8⟩ := HO9.row_at 1 rfl; obtain ⟨A9, c9, rfl, hl9, hC9⟩ := HO9.row_at 2 rfl)
          | (go_at_call 12; (with_reducible refine (abugidaref19_Same.calls km A8 c8 _ A9 c9 _ true _ hC8 hl8 hC9 hl9 HKM.out).mono ?_); rintro e W10 ⟨rfl, hdb⟩; have HO10 := HO9.grow hdb.below; clear HO9 hdb hC8 hC9 hl8 hl9; have h13 := own13 HBL.out.symm (Kd.C_old (HO10.row_sl 0 rfl).2.2 HO10.below) HLB.out HPB.out _ (Below.refl _ _))
          | (go_at_call 13; (with_reducible refine h13.mono ?_); rintro e W11 ⟨v11, rfl, hR11, hb11⟩; have HO11 := HO10.called hb11 hR11; clear HO10 hR11 hb11 h13; have h14 := own14 HBL.out.symm (Kd.C_old (HO11.row_sl 0 rfl).2.2 HO11.below) HLB.out HPB.out _ (Below.refl _ _))
          | (go_at_call 14; (with_reducible refine h14.mono ?_); rintro e W12 ⟨v12, rfl, hR12, hb12⟩; have HO12 := HO11.called hb12 hR12; clear HO11 hR12 hb12 h14; obtain ⟨A11, c11, rfl, hl11, hC11⟩ := HO12.row_at 3 rfl; obtain ⟨A12, c12, rfl, hl12, hC12⟩ := HO12.row_at 4 rfl)
          | (go_at_call 12; (with_reducible refine (abugidaref19_Same.calls kn A11 c11 _ A12 c12 _ true _ hC11 hl11 hC12 hl12 HKN.out).mono ?_); rintro e W13 ⟨rfl, hdb⟩; have HO13 := HO12.grow hdb.below; clear HO12 hdb hC11 hC12 hl11 hl12))
        go_ret
        exact ⟨rfl, below_step HBW.out HO13.below⟩
theorem attachRaw_walk (A : Option Addr) (c n : Nat) (raw : List S35) (w : World) (hn : n = raw.length) (hd : k35.C w A raw.length raw) (hc : n ≤ c) (B : Option Addr) (b m : Nat) (l : List (List Int)) (hm : m = l.length) (hr : Kd.C (Kd.slice 3 (Kd.int .i64)) w B l.length l) (hb : m ≤ b) :
    Calls Try.prog 4 #[.slice A n c, .slice B m b] w fun e w' => e = .returned (.bool true) ∧ Below w.heap.size w w' := by
  subst hn
  subst hm
  exact attachRaw_calls A c raw B b l w hd hc hr hb
end Go.Proofs.Ytnnkbcgoockniaa.Q

/- slices.Grow (of nil) and slices.Concat at [][]int and []Item; slices.Clone at []Item. Printed by genCc.py. -/
import Derived.Test.YtlgkeaildncojaaSl
import Derived.Shelf.Spec.SlicesGrow
namespace Go.Proofs.YtlgkeaildncojaaW.PrintWords
open Go.RowKit Go.Shelf
/-- An element as it was told at a world: its own rows are old. -/
def Kd.old {α : Type} (d : Kd α) (w0 : World) : Kd α where
  sz := d.sz
  E := []
  K := fun _ x cs => d.K w0 x cs
  M := fun _ _ _ x cs => d.K w0 x cs
  K_len := fun h => d.K_len h
  K_one := fun h u hu => d.K_one h u hu
  K_below := fun _ h => h
  K_of_M := fun h => h
  M_mono := fun _ h => h
  M_bound := fun h => h
  M_move := fun _ h => h
  M_lower := fun _ h => h
theorem Kd.C_old {α : Type} {d : Kd α} {w0 w : World} {A : Option Addr} {n : Nat} {xs : List α} (h : (Kd.old d w0).C w A n xs) (hb : Below w0.heap.size w0 w) : d.C w A n xs :=
  ReadsRow.imp_ h (Below.refl _ _) (fun _ _ hp => d.K_below hb hp)
end Go.Proofs.YtlgkeaildncojaaW.PrintWords
namespace Go.Proofs.Ytlgkeaildncojaa.Q
open Go.RowKit Go.Shelf Go.Proofs.YtlgkeaildncojaaW.PrintWords Go.Proofs.YtlgkeaildncojaaW.PrintLast Go.Proofs.YtlgkeaildncojaaW.PrintMore
set_option linter.unusedSimpArgs false
set_option linter.unusedVariables false
theorem flat_step {α : Type} (ls : List (List α)) (k : Nat) (h : k < ls.length) : (ls.take (k + 1)).flatten = (ls.take k).flatten ++ ls.getD k [] := by
  rw [List.take_add_one, List.flatten_append, List.getD_eq_getElem?_getD, List.getElem?_eq_getElem h]
  simp
theorem flat_le {α : Type} (ls : List (List α)) (k : Nat) : (ls.take k).flatten.length ≤ ls.flatten.length := by
  have h := congrArg (fun l : List (List α) => l.flatten.length) (List.take_append_drop k ls)
  simp only [List.flatten_append, List.length_append] at h
  omega
theorem emptyRow {α : Type} (d : Kd α) (e : Nat) {w : World} (cap : Nat) (cur : Array Value) (hc : cap ≤ maxLen) (hs : cur.size = cap * d.sz) : d.R e (w.drew.alloc (.cells cur e)) w.heap.size (fun _ => True) (.slice (some ⟨w.heap.size, 0, none⟩) 0 cap) [] := by
  refine ⟨fun _ _ => trivial, [], ⟨by simp, .inr ⟨w.heap.size, cap, cur, rfl, Nat.le_refl _, blk_new w.drew _, Nat.zero_le _, hc, hs, by simp⟩⟩, Reps.none _ _⟩
def growL_ren : Go.Shelf.Ren := ⟨fun | 4 => 71 | n => n, fun | 22 => 25 | 25 => 26 | n => n, fun | n => n⟩
theorem lays_GrowL : Go.Proofs.Lays8.n4 Try.prog growL_ren := {
  mixed := by kernel_rfl
  f4 := ⟨"slices.Grow[[][]int,[]int]", by decide, Try.func71.trans (congrArg some (by kernel_rfl))⟩
  t0 := Try.underlying0
  a0 := Try.isAgg0
  z0 := Try.sizeOf0
  v0 := Try.zeroValue0
  t3 := Try.underlying3
  a3 := Try.isAgg3
  z3 := Try.sizeOf3
  v3 := Try.zeroValue3
  t4 := Try.underlying4
  a4 := Try.isAgg4
  z4 := Try.sizeOf4
  v4 := Try.zeroValue4
  t9 := Try.underlying9
  a9 := Try.isAgg9
  z9 := Try.sizeOf9
  v9 := Try.zeroValue9
  t20 := Try.underlying20
  a20 := Try.isAgg20
  z20 := Try.sizeOf20
  v20 := Try.zeroValue20
  t22 := Try.underlying25
  a22 := Try.isAgg25
  z22 := Try.sizeOf25
  v22 := Try.zeroValue25 }
theorem hinf26 : (Try.prog.info? 26).map (fun i => (i.zero, i.size, i.bytes)) = some (some (.slice none 0 0), 1, 24) := by kernel_rfl
theorem growL_calls {α : Type} (d : Kd α) (hd : d.sz = 1) (n : Nat) (hn : n ≤ 1000000) (w : World) : Calls Try.prog 71 #[.slice none 0 0, .int .i64 n] w fun e w' => ∃ v, e = .returned v ∧ Kd.R d 26 w' w.heap.size (fun _ => True) v [] ∧ Below w.heap.size w w' := by
  by_cases h0 : n = 0
  · subst h0
    refine (Any8.slices_Grow_room lays_GrowL none 0 0 0 w (by omega) (by omega) (by omega) (by omega)).mono ?_
    rintro e w' ⟨rfl, rfl⟩
    exact ⟨_, rfl, Kd.R_nil _ _ _ _ _, Below.refl _ _⟩
  · obtain ⟨i0, hi0, hz0, hs0, hb0⟩ : ∃ i, Try.prog.info? 26 = some i ∧ i.zero = some (Value.slice none 0 0) ∧ i.size = 1 ∧ i.bytes = 24 := by
      have h := hinf26
      cases hq : Try.prog.info? 26 with
      | none => rw [hq] at h; cases h
      | some i =>
        rw [hq] at h
        simp only [Option.map_some, Option.some.injEq, Prod.mk.injEq] at h
        exact ⟨i, rfl, h.1, h.2.1, h.2.2⟩
    refine (Any8.slices_Grow_grow lays_GrowL i0 (Value.slice none 0 0) hi0 hz0 (by omega) none 0 0 n [] w (by omega) (by omega) (by rw [hb0]; omega) (by omega) (by simp) (fun _ => rfl) (fun a h => by cases h)).mono ?_
    rintro e w' ⟨rfl, rfl⟩
    refine ⟨_, rfl, emptyRow d 26 _ _ ?_ ?_, ?_⟩
    · exact grownCap_le_maxLen _ _ _ _ (by unfold maxLen; omega)
    · have hg := grownCap_ge w (0 + n) 0 26
      have hg2 : 0 + n ≤ grownCap w (0 + n) 0 (growL_ren.t 25) := hg
      have hz2 : ((Value.slice none 0 0)).cells.size = 1 := rfl
      rw [Array.size_append, Array.size_append, size_zeroCells, size_zeroCells, hz2, hd]
      simp only [List.size_toArray, List.length_nil]
      omega
    · exact below_alloc (below_drew (Below.refl _ _)) _
set_option maxRecDepth 100000 in
set_option maxHeartbeats 4000000 in
theorem concatL_calls (A : Option Addr) (c : Nat) (ls : List (List (List Int))) (w : World) (hr : Kd.C (Kd.slice 26 (Kd.slice 3 (Kd.int .i64))) w A ls.length ls) (hl : ls.length ≤ 1000) (hf : ls.flatten.length ≤ 1000000) :
    Calls Try.prog 64 #[.slice A ls.length c] w fun e w' => ∃ v, e = .returned v ∧ Kd.R (Kd.old (Kd.slice 3 (Kd.int .i64)) w) 26 w' w.heap.size (fun _ => True) v ls.flatten ∧ Below w.heap.size w w' := by
  have HR := Aside0.mk hr
  have HL := Aside0.mk hl
  have HF := Aside0.mk hf
  have HO := Own.start w
  clear hr hl hf
  go_enter Try.func64, Try.ntmps64
  go_wp2
  go_loopw [3, 11] (fun v3 v11 w' => ∃ (k s : Nat), v11 = .int .i64 k ∧ v3 = .int .i64 s ∧ Aside0 (k ≤ ls.length) ∧ Aside0 ((ls.take k).flatten.length = s) ∧ Aside0 (Own w w' [])) (fun _ v11 _ => ls.length - (intOf v11).toNat)
  case atStart => exact ⟨0, 0, rfl, rfl, ⟨Nat.zero_le _⟩, ⟨rfl⟩, ⟨HO⟩⟩
  case round =>
    clear HO
    obtain ⟨k, s, rfl, rfl, HK, HP, HOO⟩ := hrel
    have HO := HOO.out
    clear HOO
    by_cases hlt : k < ls.length
    case pos =>
      obtain ⟨ad, A0, c0, hA, x0, y0, y1⟩ := at_sl (HO.old HR.out) k hlt
      subst hA
      clear y0 y1
      have hfs := congrArg List.length (flat_step ls k hlt)
      rw [List.length_append] at hfs
      have hfl := flat_le ls (k + 1)
      rw [HP.out] at hfs
      generalize hm : (ls.getD k []).length = m at x0 hfs
      have HFS := Aside0.mk hfs
      have b0 : (s : Int) + (m : Int) ≤ 1000000 := by have := HF.out; omega
      have hkb : (k : Int) + 1 ≤ 1001 := by have := HL.out; omega
      have q1 : ((k : Int) < (ls.length : Int)) = True := eq_true (by omega)
      have q0 : (0 ≤ (k : Int)) = True := eq_true (by omega)
      have q2 : ((s : Int) + (m : Int) < 0) = False := eq_false (by omega)
      have HKL := Aside0.mk hlt
      clear hlt hfs hfl hm
      go_wp2
      go_roundw
      case rel => exact ⟨k + 1, s + m, by go_num, by go_num, ⟨HKL.out⟩, ⟨HFS.out⟩, ⟨HO⟩⟩
      case measure => have := HKL.out; simp [intOf]; omega
    have hk : k = ls.length := by have := HK.out; omega
    have q1 : ¬ ((k : Int) < (ls.length : Int)) := by omega
    have hs1 : s ≤ 1000000 := by have := HP.out; have h2 := flat_le ls k; have := HF.out; omega
    have hgr := fun W => growL_calls (Kd.old (Kd.slice 3 (Kd.int .i64)) w) rfl s hs1 W
    clear hk hlt hs1
    go_wp2_with (first
      | (go_at_call 71; (with_reducible refine (hgr _).mono ?_); rintro e W1 ⟨v1, rfl, hR1, hb1⟩; have HO1 := HO.called hb1 hR1; clear HO hR1 hb1; obtain ⟨A1, c1, rfl, -, -⟩ := HO1.row_at 0 rfl))
    clear hgr q1 HK HP
    go_loopw [6, 27] (fun v6 v27 w' => ∃ (k : Nat) (pre : List (List Int)) (A6 : Option Addr) (c6 : Nat), v27 = .int .i64 k ∧ v6 = .slice A6 pre.length c6 ∧ Aside0 (k ≤ ls.length) ∧ Aside0 ((ls.take k).flatten = pre) ∧ Aside0 (Own w w' [.row (Kd.old (Kd.slice 3 (Kd.int .i64)) w) 26 w.heap.size (.slice A6 pre.length c6) pre])) (fun _ v27 _ => ls.length - (intOf v27).toNat)
    case atStart => exact ⟨0, [], A1, c1, rfl, rfl, ⟨Nat.zero_le _⟩, ⟨rfl⟩, ⟨HO1⟩⟩
    case round =>
      clear HO1
      obtain ⟨k, pre, A6, c6, rfl, rfl, HK, HP, HOO⟩ := hrel
      have HO := HOO.out
      clear HOO
      by_cases hlt : k < ls.length
      case neg =>
        have hk : k = ls.length := by have := HK.out; omega
        have q1 : ¬ ((k : Int) < (ls.length : Int)) := by omega
        have HFU : Aside0 (pre = ls.flatten) := ⟨by rw [← HP.out, hk, List.take_length]⟩
        clear hk hlt
        go_wp2
        go_ret
        refine ⟨_, rfl, ?_, HO.below⟩
        rw [← HFU.out]
        exact HO.row_R 0 rfl
      obtain ⟨ad, A0, c0, hA, x00, y0, y1⟩ := at_sl HR.out k hlt
      have x0 := pw_cell_below HO.below x00
      subst hA
      have HY := Aside0.mk y1
      have hfs := flat_step ls k hlt
      rw [HP.out] at hfs
      have hfl := flat_le ls (k + 1)
      rw [hfs, List.length_append] at hfl
      have HFL := Aside0.mk hfl
      clear y0 y1 x00 hfl
      generalize ls.getD k [] = ys at x0 HY hfs HFL
      have HFS := Aside0.mk hfs
      have hkb : (k : Int) + 1 ≤ 1001 := by have := HL.out; omega
      have q1 : ((k : Int) < (ls.length : Int)) = True := eq_true (by omega)
      have q0 : (0 ≤ (k : Int)) = True := eq_true (by omega)
      have HKL := Aside0.mk hlt
      clear hlt hfs
      go_wp2_with (first
        | ((with_reducible refine gate_builtin (b := .append) (xs := #[.tmp 31, .tmp 32]) rfl ?_); at_builtin; refine ev_rows 0 HO rfl rfl (.tmp 31) (.tmp 32) 25 (.slice none 0 0) 24 rfl Try.underlying25 hinf26 rfl (Nat.succ_pos _) (by decide) ys A0 c0 rfl rfl (ReadsRow.imp_ HY.out HO.below (fun _ _ h => h)) (fun _ _ h => h) ?aL ?_; (case aL => have := HFL.out; have := HF.out; omega); intro A9 c9 W9 HO9; clear HO))
      go_roundw
      case rel => exact ⟨k + 1, pre ++ ys, A9, c9, by go_num, by first | rfl | rw [List.length_append], ⟨HKL.out⟩, ⟨HFS.out⟩, ⟨HO9⟩⟩
      case measure => have := HKL.out; simp [intOf]; omega
def growT_ren : Go.Shelf.Ren := ⟨fun | 4 => 72 | n => n, fun | 22 => 33 | 25 => 55 | n => n, fun | n => n⟩
theorem lays_GrowT : Go.Proofs.Lays8.n4 Try.prog growT_ren := {
  mixed := by kernel_rfl
  f4 := ⟨"slices.Grow[[]abugida/api.Item,abugida/api.Item]", by decide, Try.func72.trans (congrArg some (by kernel_rfl))⟩
  t0 := Try.underlying0
  a0 := Try.isAgg0
  z0 := Try.sizeOf0
  v0 := Try.zeroValue0
  t3 := Try.underlying3
  a3 := Try.isAgg3
  z3 := Try.sizeOf3
  v3 := Try.zeroValue3
  t4 := Try.underlying4
  a4 := Try.isAgg4
  z4 := Try.sizeOf4
  v4 := Try.zeroValue4
  t9 := Try.underlying9
  a9 := Try.isAgg9
  z9 := Try.sizeOf9
  v9 := Try.zeroValue9
  t20 := Try.underlying20
  a20 := Try.isAgg20
  z20 := Try.sizeOf20
  v20 := Try.zeroValue20
  t22 := Try.underlying33
  a22 := Try.isAgg33
  z22 := Try.sizeOf33
  v22 := Try.zeroValue33 }
theorem hinf55 : (Try.prog.info? 55).map (fun i => (i.zero, i.size, i.bytes)) = some (some (.agg #[.int .i64 0, .int .i64 0]), 2, 16) := by kernel_rfl
theorem growT_calls {α : Type} (d : Kd α) (hd : d.sz = 2) (n : Nat) (hn : n ≤ 1000000) (w : World) : Calls Try.prog 72 #[.slice none 0 0, .int .i64 n] w fun e w' => ∃ v, e = .returned v ∧ Kd.R d 55 w' w.heap.size (fun _ => True) v [] ∧ Below w.heap.size w w' := by
  by_cases h0 : n = 0
  · subst h0
    refine (Any8.slices_Grow_room lays_GrowT none 0 0 0 w (by omega) (by omega) (by omega) (by omega)).mono ?_
    rintro e w' ⟨rfl, rfl⟩
    exact ⟨_, rfl, Kd.R_nil _ _ _ _ _, Below.refl _ _⟩
  · obtain ⟨i0, hi0, hz0, hs0, hb0⟩ : ∃ i, Try.prog.info? 55 = some i ∧ i.zero = some (Value.agg #[.int .i64 0, .int .i64 0]) ∧ i.size = 2 ∧ i.bytes = 16 := by
      have h := hinf55
      cases hq : Try.prog.info? 55 with
      | none => rw [hq] at h; cases h
      | some i =>
        rw [hq] at h
        simp only [Option.map_some, Option.some.injEq, Prod.mk.injEq] at h
        exact ⟨i, rfl, h.1, h.2.1, h.2.2⟩
    refine (Any8.slices_Grow_grow lays_GrowT i0 (Value.agg #[.int .i64 0, .int .i64 0]) hi0 hz0 (by omega) none 0 0 n [] w (by omega) (by omega) (by rw [hb0]; omega) (by omega) (by simp) (fun _ => rfl) (fun a h => by cases h)).mono ?_
    rintro e w' ⟨rfl, rfl⟩
    refine ⟨_, rfl, emptyRow d 55 _ _ ?_ ?_, ?_⟩
    · exact grownCap_le_maxLen _ _ _ _ (by unfold maxLen; omega)
    · have hg := grownCap_ge w (0 + n) 0 55
      have hg2 : 0 + n ≤ grownCap w (0 + n) 0 (growT_ren.t 25) := hg
      have hz2 : ((Value.agg #[.int .i64 0, .int .i64 0])).cells.size = 2 := rfl
      rw [Array.size_append, Array.size_append, size_zeroCells, size_zeroCells, hz2, hd]
      simp only [List.size_toArray, List.length_nil]
      omega
    · exact below_alloc (below_drew (Below.refl _ _)) _
set_option maxRecDepth 100000 in
set_option maxHeartbeats 4000000 in
theorem concatT_calls (A : Option Addr) (c : Nat) (ls : List (List S55)) (w : World) (hr : Kd.C (Kd.slice 55 k55) w A ls.length ls) (hl : ls.length ≤ 1000) (hf : ls.flatten.length ≤ 1000000) :
    Calls Try.prog 68 #[.slice A ls.length c] w fun e w' => ∃ v, e = .returned v ∧ Kd.R k55 55 w' w.heap.size (fun _ => True) v ls.flatten ∧ Below w.heap.size w w' := by
  have HR := Aside0.mk hr
  have HL := Aside0.mk hl
  have HF := Aside0.mk hf
  have HO := Own.start w
  clear hr hl hf
  go_enter Try.func68, Try.ntmps68
  go_wp2
  go_loopw [3, 11] (fun v3 v11 w' => ∃ (k s : Nat), v11 = .int .i64 k ∧ v3 = .int .i64 s ∧ Aside0 (k ≤ ls.length) ∧ Aside0 ((ls.take k).flatten.length = s) ∧ Aside0 (Own w w' [])) (fun _ v11 _ => ls.length - (intOf v11).toNat)
  case atStart => exact ⟨0, 0, rfl, rfl, ⟨Nat.zero_le _⟩, ⟨rfl⟩, ⟨HO⟩⟩
  case round =>
    clear HO
    obtain ⟨k, s, rfl, rfl, HK, HP, HOO⟩ := hrel
    have HO := HOO.out
    clear HOO
    by_cases hlt : k < ls.length
    case pos =>
      obtain ⟨ad, A0, c0, hA, x0, y0, y1⟩ := at_sl (HO.old HR.out) k hlt
      subst hA
      clear y0 y1
      have hfs := congrArg List.length (flat_step ls k hlt)
      rw [List.length_append] at hfs
      have hfl := flat_le ls (k + 1)
      rw [HP.out] at hfs
      generalize hm : (ls.getD k []).length = m at x0 hfs
      have HFS := Aside0.mk hfs
      have b0 : (s : Int) + (m : Int) ≤ 1000000 := by have := HF.out; omega
      have hkb : (k : Int) + 1 ≤ 1001 := by have := HL.out; omega
      have q1 : ((k : Int) < (ls.length : Int)) = True := eq_true (by omega)
      have q0 : (0 ≤ (k : Int)) = True := eq_true (by omega)
      have q2 : ((s : Int) + (m : Int) < 0) = False := eq_false (by omega)
      have HKL := Aside0.mk hlt
      clear hlt hfs hfl hm
      go_wp2
      go_roundw
      case rel => exact ⟨k + 1, s + m, by go_num, by go_num, ⟨HKL.out⟩, ⟨HFS.out⟩, ⟨HO⟩⟩
      case measure => have := HKL.out; simp [intOf]; omega
    have hk : k = ls.length := by have := HK.out; omega
    have q1 : ¬ ((k : Int) < (ls.length : Int)) := by omega
    have hs1 : s ≤ 1000000 := by have := HP.out; have h2 := flat_le ls k; have := HF.out; omega
    have hgr := fun W => growT_calls k55 rfl s hs1 W
    clear hk hlt hs1
    go_wp2_with (first
      | (go_at_call 72; (with_reducible refine (hgr _).mono ?_); rintro e W1 ⟨v1, rfl, hR1, hb1⟩; have HO1 := HO.called hb1 hR1; clear HO hR1 hb1; obtain ⟨A1, c1, rfl, -, -⟩ := HO1.row_at 0 rfl))
    clear hgr q1 HK HP
    go_loopw [6, 27] (fun v6 v27 w' => ∃ (k : Nat) (pre : List S55) (A6 : Option Addr) (c6 : Nat), v27 = .int .i64 k ∧ v6 = .slice A6 pre.length c6 ∧ Aside0 (k ≤ ls.length) ∧ Aside0 ((ls.take k).flatten = pre) ∧ Aside0 (Own w w' [.row k55 55 w.heap.size (.slice A6 pre.length c6) pre])) (fun _ v27 _ => ls.length - (intOf v27).toNat)
    case atStart => exact ⟨0, [], A1, c1, rfl, rfl, ⟨Nat.zero_le _⟩, ⟨rfl⟩, ⟨HO1⟩⟩
    case round =>
      clear HO1
      obtain ⟨k, pre, A6, c6, rfl, rfl, HK, HP, HOO⟩ := hrel
      have HO := HOO.out
      clear HOO
      by_cases hlt : k < ls.length
      case neg =>
        have hk : k = ls.length := by have := HK.out; omega
        have q1 : ¬ ((k : Int) < (ls.length : Int)) := by omega
        have HFU : Aside0 (pre = ls.flatten) := ⟨by rw [← HP.out, hk, List.take_length]⟩
        clear hk hlt
        go_wp2
        go_ret
        refine ⟨_, rfl, ?_, HO.below⟩
        rw [← HFU.out]
        exact HO.row_R 0 rfl
      obtain ⟨ad, A0, c0, hA, x00, y0, y1⟩ := at_sl HR.out k hlt
      have x0 := pw_cell_below HO.below x00
      subst hA
      have HY := Aside0.mk y1
      have hfs := flat_step ls k hlt
      rw [HP.out] at hfs
      have hfl := flat_le ls (k + 1)
      rw [hfs, List.length_append] at hfl
      have HFL := Aside0.mk hfl
      clear y0 y1 x00 hfl
      generalize ls.getD k [] = ys at x0 HY hfs HFL
      have HFS := Aside0.mk hfs
      have hkb : (k : Int) + 1 ≤ 1001 := by have := HL.out; omega
      have q1 : ((k : Int) < (ls.length : Int)) = True := eq_true (by omega)
      have q0 : (0 ≤ (k : Int)) = True := eq_true (by omega)
      have HKL := Aside0.mk hlt
      clear hlt hfs
      go_wp2_with (first
        | ((with_reducible refine gate_builtin (b := .append) (xs := #[.tmp 31, .tmp 32]) rfl ?_); at_builtin; refine ev_rows 0 HO rfl rfl (.tmp 31) (.tmp 32) 33 (.agg #[.int .i64 0, .int .i64 0]) 16 rfl Try.underlying33 hinf55 rfl (Nat.succ_pos _) (by decide) ys A0 c0 rfl rfl (Kd.C_below HY.out HO.below) (fun _ _ h => h) ?aL ?_; (case aL => have := HFL.out; have := HF.out; omega); intro A9 c9 W9 HO9; clear HO))
      go_roundw
      case rel => exact ⟨k + 1, pre ++ ys, A9, c9, by go_num, by first | rfl | rw [List.length_append], ⟨HKL.out⟩, ⟨HFS.out⟩, ⟨HO9⟩⟩
      case measure => have := HKL.out; simp [intOf]; omega
end Go.Proofs.Ytlgkeaildncojaa.Q

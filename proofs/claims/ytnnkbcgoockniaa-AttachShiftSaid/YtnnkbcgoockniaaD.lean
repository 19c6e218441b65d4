/- The glyphs of the examples. -/
import Derived.Test.YtnnkbcgoockniaaC
namespace Go.Proofs.Ytnnkbcgoockniaa.Q
open Go.RowKit Go.Shelf Go.Proofs.YtnnkbcgoockniaaW.PrintWords Go.Proofs.YtnnkbcgoockniaaW.PrintLast Go.Proofs.YtnnkbcgoockniaaW.PrintMore
set_option linter.unusedSimpArgs false
set_option linter.unusedVariables false

def gl1 (c : Int) : S35 :=
  if c = 97 then ⟨[], [⟨1, 4, 20⟩, ⟨2, 5, -2⟩], ⟨0, 0, 0⟩, 10⟩ else if c = 109 then ⟨[], [⟨1, 1, 8⟩], ⟨1, 1, 0⟩, 9⟩ else if c = 110 then ⟨[], [], ⟨2, 0, 3⟩, 0⟩ else ⟨[], [], ⟨0, 0, 0⟩, 6⟩
def glyphsN (s : ByteArray) (n : Nat) : List S35 := (List.range n).map (fun (i : Nat) => gl1 (bt s (i : Int)))
theorem glyphsN_succ (s : ByteArray) (n : Nat) : glyphsN s (n + 1) = glyphsN s n ++ [gl1 (bt s (n : Int))] := by simp [glyphsN, List.range_succ]
theorem glyphsN_length (s : ByteArray) (n : Nat) : (glyphsN s n).length = n := by simp [glyphsN]

set_option maxRecDepth 100000 in
set_option maxHeartbeats 2000000 in
theorem glyphs_calls (s : ByteArray) (hs : s.size ≤ 1000000) (w : World) :
    Calls Try.prog 16 #[.string s] w fun e w' => ∃ v, e = .returned v ∧ Kd.R k35 35 w' w.heap.size (fun _ => True) v (glyphsN s s.size) ∧ Below w.heap.size w w' := by
  have HS := Aside0.mk hs
  have HO := (Own.start w).newrow k35 35
  clear hs
  go_enter Try.func16, Try.ntmps16
  go_wp2
  go_loopw [3, 4] (fun v3 v4 w' => ∃ (k : Nat) (A3 : Option Addr) (c3 : Nat), v4 = .int .i64 k ∧ v3 = .slice A3 (glyphsN s k).length c3 ∧ Aside0 (k ≤ s.size) ∧ Aside0 (Own w w' [.row k35 35 w.heap.size (.slice A3 k c3) (glyphsN s k)])) (fun _ v4 _ => s.size - (intOf v4).toNat)
  case atStart => exact ⟨0, none, 0, rfl, rfl, ⟨Nat.zero_le _⟩, ⟨HO⟩⟩
  case round =>
    clear HO
    obtain ⟨k, A3, c3, rfl, rfl, HK, HOO⟩ := hrel
    have HO := HOO.out
    clear HOO
    rw [glyphsN_length]
    by_cases hlt : k < s.size
    · have HL := Aside0.mk (show (glyphsN s k).length = k ∧ k < s.size ∧ k < 1000000 by rw [glyphsN_length]; have := HS.out; omega)
      have hx : ∀ (h : k < s.size), ((s[k]'h).toNat : Int) = bt s (k : Int) := fun h => bt_at s (k : Int) h
      have p1 : (0 ≤ (k : Int)) = True := eq_true (by omega)
      have q1 : ((k : Int) < (s.size : Int)) = True := eq_true (by omega)
      have hkb : (k : Int) + 1 ≤ 1000000 := by have := HL.out; omega
      clear hlt
      by_cases ca : bt s (k : Int) = 97
      · have HG := Aside0.mk (show gl1 (bt s (k : Int)) = ⟨[], [⟨1, 4, 20⟩, ⟨2, 5, -2⟩], ⟨0, 0, 0⟩, 10⟩ by rw [gl1, if_pos ca])
        have cab : (bt s (k : Int) == 97) = true := beq_iff_eq.mpr ca
        clear ca
        go_wp2_with (first
          | ((with_reducible refine gate_dst (N := 5) rfl ?_); refine ev_box (N := 5) (cs := #[.slice none 0 0, .slice none 0 0, .int .i64 0, .int .i64 0, .int .i64 0, .int .i64 0]) (t := 35) HO rfl rfl ?hr ?_; (case hr => first | (go_simp; done) | (go_simp; rfl)); intro g5 W1 HO1 hb1; clear HO hb1)
          | ((with_reducible refine gate_store (t := 35) (p := 5) rfl ?_); refine ev_store (cs' := #[.slice none 0 0, .slice none 0 0, .int .i64 0, .int .i64 0, .int .i64 0, .int .i64 6]) (.agg #[.slice none 0 0, .slice none 0 0, .int .i64 0, .int .i64 0, .int .i64 0, .int .i64 6]) 1 HO1 rfl rfl rfl rfl 0 rfl rfl sz35 (by simp [Value.oneCell', Value.cells]) (Nat.le_refl _) rfl ?_; intro W2 HO2; clear HO1)
          | ((with_reducible refine gate_dst (N := 20) rfl ?_); refine ev_lit k33 33 (N := 20) (xs := [⟨1, 4, 20⟩, ⟨2, 5, -2⟩]) (inner := [.int .i64 1, .int .i64 4, .int .i64 20, .int .i64 2, .int .i64 5, .int .i64 (-2)]) HO2 rfl rfl ?hr ?hp (by decide) ?_; (case hr => first | (go_simp; done) | (go_simp; rfl)); (case hp => first | exact (Reps.none _ _).snoc (k33_mkM _ _ _ _) rfl | exact ((Reps.none _ _).snoc (k33_mkM _ _ _ _) rfl).snoc (k33_mkM _ _ _ _) rfl); intro A3 c3 W3 HO3 hb3; clear HO2 hb3)
          | ((with_reducible refine gate_store (t := 35) (p := 5) rfl ?_); refine ev_store (cs' := #[.slice none 0 0, .slice A3 2 c3, .int .i64 0, .int .i64 0, .int .i64 0, .int .i64 10]) (.agg #[.slice none 0 0, .slice A3 2 c3, .int .i64 0, .int .i64 0, .int .i64 0, .int .i64 10]) 1 HO3 rfl rfl rfl rfl 0 rfl rfl sz35 (by simp [Value.oneCell', Value.cells]) (Nat.le_refl _) rfl ?_; intro W4 HO4; clear HO3; have y0 := HO4.box_cell 1 rfl 0 rfl; have y1 := HO4.box_cell 1 rfl 1 rfl; have y2 := HO4.box_cell 1 rfl 2 rfl; have y3 := HO4.box_cell 1 rfl 3 rfl; have y4 := HO4.box_cell 1 rfl 4 rfl; have y5 := HO4.box_cell 1 rfl 5 rfl)
          | ((with_reducible refine gate_builtin (b := .append) (xs := #[.tmp 32, .tmp 34]) rfl ?_); at_builtin; have HV := HO4.say 2 (r' := .val k35 w.heap.size (⟨[], [⟨1, 4, 20⟩, ⟨2, 5, -2⟩], ⟨0, 0, 0⟩, 10⟩ : S35) [.slice none 0 0, .slice A3 2 c3, .int .i64 0, .int .i64 0, .int .i64 0, .int .i64 10]) rfl (fun ok h_ => k35_mkM _ _ _ (⟨[], [⟨1, 4, 20⟩, ⟨2, 5, -2⟩], ⟨0, 0, 0⟩, 10⟩ : S35) (Kd.R_nil _ _ _ _ _) h_); refine ev_appendv 0 2 (by decide) HV rfl rfl rfl (.tmp 32) (.tmp 34) 24 (.agg #[.slice none 0 0, .slice none 0 0, .int .i64 0, .int .i64 0, .int .i64 0, .int .i64 0]) 80 rfl Try.underlying24 info35 rfl (by decide) (by decide) rfl rfl ?aL ?_; (case aL => have := HL.out; omega); intro A5 c5 W5 HO5; clear HV HO4 y0 y1 y2 y3 y4 y5))
        go_roundw
        case rel => exact ⟨k + 1, A5, c5, by go_num, by rw [glyphsN_length, glyphsN_length], ⟨by have := HL.out; omega⟩, ⟨by have h := HO5.upto 1; rw [glyphsN_length] at h; rw [glyphsN_succ, HG.out]; exact h⟩⟩
        case measure => have := HL.out; simp [intOf]; omega
      · have cab : (bt s (k : Int) == 97) = false := beq_eq_false_iff_ne.mpr ca
        by_cases cm : bt s (k : Int) = 109
        · have HG := Aside0.mk (show gl1 (bt s (k : Int)) = ⟨[], [⟨1, 1, 8⟩], ⟨1, 1, 0⟩, 9⟩ by rw [gl1, if_neg ca, if_pos cm])
          have cmb : (bt s (k : Int) == 109) = true := beq_iff_eq.mpr cm
          clear ca cm
          go_wp2_with (first
            | ((with_reducible refine gate_dst (N := 5) rfl ?_); refine ev_box (N := 5) (cs := #[.slice none 0 0, .slice none 0 0, .int .i64 0, .int .i64 0, .int .i64 0, .int .i64 0]) (t := 35) HO rfl rfl ?hr ?_; (case hr => first | (go_simp; done) | (go_simp; rfl)); intro g5 W1 HO1 hb1; clear HO hb1)
            | ((with_reducible refine gate_store (t := 35) (p := 5) rfl ?_); refine ev_store (cs' := #[.slice none 0 0, .slice none 0 0, .int .i64 0, .int .i64 0, .int .i64 0, .int .i64 6]) (.agg #[.slice none 0 0, .slice none 0 0, .int .i64 0, .int .i64 0, .int .i64 0, .int .i64 6]) 1 HO1 rfl rfl rfl rfl 0 rfl rfl sz35 (by simp [Value.oneCell', Value.cells]) (Nat.le_refl _) rfl ?_; intro W2 HO2; clear HO1)
            | ((with_reducible refine gate_dst (N := 26) rfl ?_); refine ev_lit k33 33 (N := 26) (xs := [⟨1, 1, 8⟩]) (inner := [.int .i64 1, .int .i64 1, .int .i64 8]) HO2 rfl rfl ?hr ?hp (by decide) ?_; (case hr => first | (go_simp; done) | (go_simp; rfl)); (case hp => first | exact (Reps.none _ _).snoc (k33_mkM _ _ _ _) rfl | exact ((Reps.none _ _).snoc (k33_mkM _ _ _ _) rfl).snoc (k33_mkM _ _ _ _) rfl); intro A3 c3 W3 HO3 hb3; clear HO2 hb3)
            | ((with_reducible refine gate_store (t := 35) (p := 5) rfl ?_); refine ev_store (cs' := #[.slice none 0 0, .slice A3 1 c3, .int .i64 1, .int .i64 1, .int .i64 0, .int .i64 9]) (.agg #[.slice none 0 0, .slice A3 1 c3, .int .i64 1, .int .i64 1, .int .i64 0, .int .i64 9]) 1 HO3 rfl rfl rfl rfl 0 rfl rfl sz35 (by simp [Value.oneCell', Value.cells]) (Nat.le_refl _) rfl ?_; intro W4 HO4; clear HO3; have y0 := HO4.box_cell 1 rfl 0 rfl; have y1 := HO4.box_cell 1 rfl 1 rfl; have y2 := HO4.box_cell 1 rfl 2 rfl; have y3 := HO4.box_cell 1 rfl 3 rfl; have y4 := HO4.box_cell 1 rfl 4 rfl; have y5 := HO4.box_cell 1 rfl 5 rfl)
            | ((with_reducible refine gate_builtin (b := .append) (xs := #[.tmp 32, .tmp 34]) rfl ?_); at_builtin; have HV := HO4.say 2 (r' := .val k35 w.heap.size (⟨[], [⟨1, 1, 8⟩], ⟨1, 1, 0⟩, 9⟩ : S35) [.slice none 0 0, .slice A3 1 c3, .int .i64 1, .int .i64 1, .int .i64 0, .int .i64 9]) rfl (fun ok h_ => k35_mkM _ _ _ (⟨[], [⟨1, 1, 8⟩], ⟨1, 1, 0⟩, 9⟩ : S35) (Kd.R_nil _ _ _ _ _) h_); refine ev_appendv 0 2 (by decide) HV rfl rfl rfl (.tmp 32) (.tmp 34) 24 (.agg #[.slice none 0 0, .slice none 0 0, .int .i64 0, .int .i64 0, .int .i64 0, .int .i64 0]) 80 rfl Try.underlying24 info35 rfl (by decide) (by decide) rfl rfl ?aL ?_; (case aL => have := HL.out; omega); intro A5 c5 W5 HO5; clear HV HO4 y0 y1 y2 y3 y4 y5))
          go_roundw
          case rel => exact ⟨k + 1, A5, c5, by go_num, by rw [glyphsN_length, glyphsN_length], ⟨by have := HL.out; omega⟩, ⟨by have h := HO5.upto 1; rw [glyphsN_length] at h; rw [glyphsN_succ, HG.out]; exact h⟩⟩
          case measure => have := HL.out; simp [intOf]; omega
        · have cmb : (bt s (k : Int) == 109) = false := beq_eq_false_iff_ne.mpr cm
          by_cases cn : bt s (k : Int) = 110
          · have HG := Aside0.mk (show gl1 (bt s (k : Int)) = ⟨[], [], ⟨2, 0, 3⟩, 0⟩ by rw [gl1, if_neg ca, if_neg cm, if_pos cn])
            have cnb : (bt s (k : Int) == 110) = true := beq_iff_eq.mpr cn
            clear ca cm cn
            go_wp2_with (first
              | ((with_reducible refine gate_dst (N := 5) rfl ?_); refine ev_box (N := 5) (cs := #[.slice none 0 0, .slice none 0 0, .int .i64 0, .int .i64 0, .int .i64 0, .int .i64 0]) (t := 35) HO rfl rfl ?hr ?_; (case hr => first | (go_simp; done) | (go_simp; rfl)); intro g5 W1 HO1 hb1; clear HO hb1)
              | ((with_reducible refine gate_store (t := 35) (p := 5) rfl ?_); refine ev_store (cs' := #[.slice none 0 0, .slice none 0 0, .int .i64 0, .int .i64 0, .int .i64 0, .int .i64 6]) (.agg #[.slice none 0 0, .slice none 0 0, .int .i64 0, .int .i64 0, .int .i64 0, .int .i64 6]) 1 HO1 rfl rfl rfl rfl 0 rfl rfl sz35 (by simp [Value.oneCell', Value.cells]) (Nat.le_refl _) rfl ?_; intro W2 HO2; clear HO1)
              | ((with_reducible refine gate_store (t := 35) (p := 5) rfl ?_); refine ev_store (cs' := #[.slice none 0 0, .slice none 0 0, .int .i64 2, .int .i64 0, .int .i64 3, .int .i64 0]) (.agg #[.slice none 0 0, .slice none 0 0, .int .i64 2, .int .i64 0, .int .i64 3, .int .i64 0]) 1 HO2 rfl rfl rfl rfl 0 rfl rfl sz35 (by simp [Value.oneCell', Value.cells]) (Nat.le_refl _) rfl ?_; intro W4 HO4; clear HO2; have y0 := HO4.box_cell 1 rfl 0 rfl; have y1 := HO4.box_cell 1 rfl 1 rfl; have y2 := HO4.box_cell 1 rfl 2 rfl; have y3 := HO4.box_cell 1 rfl 3 rfl; have y4 := HO4.box_cell 1 rfl 4 rfl; have y5 := HO4.box_cell 1 rfl 5 rfl)
              | ((with_reducible refine gate_builtin (b := .append) (xs := #[.tmp 32, .tmp 34]) rfl ?_); at_builtin; refine ev_append 0 HO4 rfl rfl (.tmp 32) (.tmp 34) 24 (.agg #[.slice none 0 0, .slice none 0 0, .int .i64 0, .int .i64 0, .int .i64 0, .int .i64 0]) 80 rfl Try.underlying24 info35 rfl (by decide) (by decide) (⟨[], [], ⟨2, 0, 3⟩, 0⟩ : S35) [.slice none 0 0, .slice none 0 0, .int .i64 2, .int .i64 0, .int .i64 3, .int .i64 0] rfl rfl (k35_mkM _ _ _ (⟨[], [], ⟨2, 0, 3⟩, 0⟩ : S35) (Kd.R_nil _ _ _ _ _) (Kd.R_nil _ _ _ _ _)) ?aL ?_; (case aL => have := HL.out; omega); intro A5 c5 W5 HO5; clear HO4 y0 y1 y2 y3 y4 y5))
            go_roundw
            case rel => exact ⟨k + 1, A5, c5, by go_num, by rw [glyphsN_length, glyphsN_length], ⟨by have := HL.out; omega⟩, ⟨by have h := HO5.upto 1; rw [glyphsN_length] at h; rw [glyphsN_succ, HG.out]; exact h⟩⟩
            case measure => have := HL.out; simp [intOf]; omega
          · have HG := Aside0.mk (show gl1 (bt s (k : Int)) = ⟨[], [], ⟨0, 0, 0⟩, 6⟩ by rw [gl1, if_neg ca, if_neg cm, if_neg cn])
            have cnb : (bt s (k : Int) == 110) = false := beq_eq_false_iff_ne.mpr cn
            clear ca cm cn
            go_wp2_with (first
              | ((with_reducible refine gate_dst (N := 5) rfl ?_); refine ev_box (N := 5) (cs := #[.slice none 0 0, .slice none 0 0, .int .i64 0, .int .i64 0, .int .i64 0, .int .i64 0]) (t := 35) HO rfl rfl ?hr ?_; (case hr => first | (go_simp; done) | (go_simp; rfl)); intro g5 W1 HO1 hb1; clear HO hb1)
              | ((with_reducible refine gate_store (t := 35) (p := 5) rfl ?_); refine ev_store (cs' := #[.slice none 0 0, .slice none 0 0, .int .i64 0, .int .i64 0, .int .i64 0, .int .i64 6]) (.agg #[.slice none 0 0, .slice none 0 0, .int .i64 0, .int .i64 0, .int .i64 0, .int .i64 6]) 1 HO1 rfl rfl rfl rfl 0 rfl rfl sz35 (by simp [Value.oneCell', Value.cells]) (Nat.le_refl _) rfl ?_; intro W2 HO2; clear HO1; have y0 := HO2.box_cell 1 rfl 0 rfl; have y1 := HO2.box_cell 1 rfl 1 rfl; have y2 := HO2.box_cell 1 rfl 2 rfl; have y3 := HO2.box_cell 1 rfl 3 rfl; have y4 := HO2.box_cell 1 rfl 4 rfl; have y5 := HO2.box_cell 1 rfl 5 rfl)
              | ((with_reducible refine gate_builtin (b := .append) (xs := #[.tmp 32, .tmp 34]) rfl ?_); at_builtin; refine ev_append 0 HO2 rfl rfl (.tmp 32) (.tmp 34) 24 (.agg #[.slice none 0 0, .slice none 0 0, .int .i64 0, .int .i64 0, .int .i64 0, .int .i64 0]) 80 rfl Try.underlying24 info35 rfl (by decide) (by decide) (⟨[], [], ⟨0, 0, 0⟩, 6⟩ : S35) [.slice none 0 0, .slice none 0 0, .int .i64 0, .int .i64 0, .int .i64 0, .int .i64 6] rfl rfl (k35_mkM _ _ _ (⟨[], [], ⟨0, 0, 0⟩, 6⟩ : S35) (Kd.R_nil _ _ _ _ _) (Kd.R_nil _ _ _ _ _)) ?aL ?_; (case aL => have := HL.out; omega); intro A5 c5 W5 HO5; clear HO2 y0 y1 y2 y3 y4 y5))
            go_roundw
            case rel => exact ⟨k + 1, A5, c5, by go_num, by rw [glyphsN_length, glyphsN_length], ⟨by have := HL.out; omega⟩, ⟨by have h := HO5.upto 1; rw [glyphsN_length] at h; rw [glyphsN_succ, HG.out]; exact h⟩⟩
            case measure => have := HL.out; simp [intOf]; omega
    · have hkl : k = s.size := by have := HK.out; omega
      subst hkl
      have q1 : ¬ (s.size : Int) < (s.size : Int) := by omega
      clear hlt
      go_wp2
      go_ret
      exact ⟨_, rfl, HO.row_R 0 rfl, HO.below⟩

end Go.Proofs.Ytnnkbcgoockniaa.Q

-- Written by wip/tools/myprint.py, a program of this session that drives the kit's print.py; not a text of print.sh.
import Derived.Test.YtacnckneiklgpaaQx0
import Derived.Test.YtacnckneiklgpaaQx14
namespace Go.Proofs.Ytacnckneiklgpaa.Q
open Go.RowKit Go.Proofs.YtacnckneiklgpaaW.PrintWords Go.Proofs.YtacnckneiklgpaaW.PrintLast Go.Proofs.YtacnckneiklgpaaW.PrintMore
attribute [local go_sem] max2_int min2_int max_two min_two max_three min_three max_four min_four   -- for this text's walks alone
set_option linter.unusedVariables false
set_option linter.unusedSimpArgs false

/-! ### abugidaref05_Class: function 22 -/
def abugidaref05_Class.j0 : Nat → Int → Bool → Option (Int)
  | 0, _, _ => none
  | k + 1, x0, x18 => if x18 = true then (some 6) else ((abugidaref05_within.f x0 104 127).bind fun t216 => (if t216 = true then (some 7) else ((abugidaref05_within.f x0 128 143).bind fun t217 => (if t217 = true then (some 8) else ((abugidaref05_within.f x0 152 183).bind fun t218 => (if t218 = true then (some 9) else (if x0 = 184 then (some 10) else ((abugidaref05_within.f x0 185 191).bind fun t219 => (if t219 = true then (some 11) else ((abugidaref05_within.f x0 192 199).bind fun t220 => (if t220 = true then (some 12) else (if x0 = 240 then (some 13) else (if x0 = 241 then (some 14) else (some 0))))))))))))))
def abugidaref05_Class.f (k : Nat) (a0 : Int) : Option (Int) := if a0 = 10 then (some 1) else (if a0 = 32 then (some 2) else ((abugidaref05_within.f a0 33 47).bind fun t210 => (if t210 = true then (some 4) else ((abugidaref05_within.f a0 48 57).bind fun t211 => (if t211 = true then (some 3) else ((abugidaref05_within.f a0 64 95).bind fun t212 => (if t212 = true then (some 5) else ((abugidaref05_within.f a0 96 103).bind fun t213 => (if t213 = true then (abugidaref05_Class.j0 k a0 true) else ((abugidaref05_within.f a0 144 151).bind fun t214 => (if t214 = true then (abugidaref05_Class.j0 k a0 true) else ((abugidaref05_within.f a0 200 207).bind fun t215 => (abugidaref05_Class.j0 k a0 t215)))))))))))))
theorem abugidaref05_Class.mono_l : ∀ k, (∀ y0 y1, LeO (abugidaref05_Class.j0 k y0 y1) (abugidaref05_Class.j0 (k + 1) y0 y1))
  | 0 => fun _ _ r h => by simp [abugidaref05_Class.j0] at h
  | k + 1 => by
    have ih0 := abugidaref05_Class.mono_l k
    · intro y0 y1
      unfold abugidaref05_Class.j0
      repeat' first
      | (with_reducible exact ih0 _ _)
      | (with_reducible exact LeO.refl _)
      | (with_reducible exact LeO.none _)
      | (with_reducible refine LeO.ite ?_ ?_)
      | (with_reducible refine LeO.bind ?_ (fun _ => ?_))
      | exact ih0 _ _
      | exact LeO.none _
      | refine LeO.ite ?_ ?_
      | refine LeO.bind ?_ (fun _ => ?_)
theorem abugidaref05_Class.mono : ∀ a0 k, LeO (abugidaref05_Class.f k a0) (abugidaref05_Class.f (k + 1) a0) := by
  intro a0 k
  have ih0 := abugidaref05_Class.mono_l k
  unfold abugidaref05_Class.f
  repeat' first
      | (with_reducible exact ih0 _ _)
      | (with_reducible exact LeO.refl _)
      | (with_reducible exact LeO.none _)
      | (with_reducible refine LeO.ite ?_ ?_)
      | (with_reducible refine LeO.bind ?_ (fun _ => ?_))
      | exact ih0 _ _
      | exact LeO.none _
      | refine LeO.ite ?_ ?_
      | refine LeO.bind ?_ (fun _ => ?_)
set_option maxHeartbeats 8000000 in
set_option maxRecDepth 100000 in
theorem abugidaref05_Class.calls (k : Nat) (a0 : Int) (r : Int) (w : World) (h : abugidaref05_Class.f k a0 = some r) :
    Calls Try.prog 22 #[.int .i64 a0] w fun e w' => e = .returned (.int .i64 r) ∧ Drawn0 w w' := by
  have H : (if a0 = 10 then (some 1) else (if a0 = 32 then (some 2) else ((abugidaref05_within.f a0 33 47).bind fun t210 => (if t210 = true then (some 4) else ((abugidaref05_within.f a0 48 57).bind fun t211 => (if t211 = true then (some 3) else ((abugidaref05_within.f a0 64 95).bind fun t212 => (if t212 = true then (some 5) else ((abugidaref05_within.f a0 96 103).bind fun t213 => (if t213 = true then (abugidaref05_Class.j0 k a0 true) else ((abugidaref05_within.f a0 144 151).bind fun t214 => (if t214 = true then (abugidaref05_Class.j0 k a0 true) else ((abugidaref05_within.f a0 200 207).bind fun t215 => (abugidaref05_Class.j0 k a0 t215)))))))))))))) = some r := h
  clear h
  by_cases c2 : a0 = 10
  · rw [if_pos c2] at H
    have c2b0 : (a0 == 10) = true := beq_iff_eq.mpr c2
    have c2b1 : (a0 != 10) = false := bne_eq_false_iff_eq.mpr c2
    clear c2
    obtain rfl := Option.some.inj H
    go_enter Try.func22, Try.ntmps22
    go_wp2
    go_ret
    exact ⟨by first | rfl | (simp; done) | (simp [*]; done), by repeat (first | exact Drawn0.refl _ | apply Drawn0.step)⟩
  · rw [if_neg c2] at H
    have c2b0 : (a0 == 10) = false := beq_eq_false_iff_ne.mpr c2
    have c2b1 : (a0 != 10) = true := bne_iff_ne.mpr c2
    by_cases c3 : a0 = 32
    · rw [if_pos c3] at H
      have c3b0 : (a0 == 32) = true := beq_iff_eq.mpr c3
      have c3b1 : (a0 != 32) = false := bne_eq_false_iff_eq.mpr c3
      clear c3
      obtain rfl := Option.some.inj H
      go_enter Try.func22, Try.ntmps22
      go_wp2
      go_ret
      exact ⟨by first | rfl | (simp; done) | (simp [*]; done), by repeat (first | exact Drawn0.refl _ | apply Drawn0.step)⟩
    · rw [if_neg c3] at H
      have c3b0 : (a0 == 32) = false := beq_eq_false_iff_ne.mpr c3
      have c3b1 : (a0 != 32) = true := bne_iff_ne.mpr c3
      replace H := Option.bind_eq_some_iff.mp H
      obtain ⟨t210, A40, H⟩ := H
      replace H : (if t210 = true then (some 4) else ((abugidaref05_within.f a0 48 57).bind fun t211 => (if t211 = true then (some 3) else ((abugidaref05_within.f a0 64 95).bind fun t212 => (if t212 = true then (some 5) else ((abugidaref05_within.f a0 96 103).bind fun t213 => (if t213 = true then (abugidaref05_Class.j0 k a0 true) else ((abugidaref05_within.f a0 144 151).bind fun t214 => (if t214 = true then (abugidaref05_Class.j0 k a0 true) else ((abugidaref05_within.f a0 200 207).bind fun t215 => (abugidaref05_Class.j0 k a0 t215))))))))))) = some r := H
      have A4 := Aside0.mk A40
      clear A40
      by_cases c5 : t210 = true
      · subst c5
        have H1 : (some 4) = some r := by rw [if_pos rfl] at H; exact H
        clear H
        have H := H1
        clear H1
        obtain rfl := Option.some.inj H
        go_enter Try.func22, Try.ntmps22
        go_wp2_with (first | ((with_reducible refine gate_callee (f := 36) rfl ?_); refine goesL_ (some 11) rfl rfl Try.func36 (by kernel_rfl) rfl #[.int .i64 a0, .int .i64 33, .int .i64 47] rfl (by (try simp only [List.map_toArray, List.map_cons, List.map_nil]); first | done | rfl | (simp only [List.length_drop, List.length_take]; rfl)) ?_; (with_reducible refine (abugidaref05_within.calls a0 33 47 true _ A4.out).mono ?_); rintro e w' ⟨rfl, ⟨nd, rfl⟩⟩; refine ⟨_, rfl, ?_⟩))
        go_ret
        exact ⟨by first | rfl | (simp; done) | (simp [*]; done), by repeat (first | exact Drawn0.refl _ | apply Drawn0.step)⟩
      · replace c5 := Bool.eq_false_iff.mpr c5
        subst c5
        have H1 : ((abugidaref05_within.f a0 48 57).bind fun t211 => (if t211 = true then (some 3) else ((abugidaref05_within.f a0 64 95).bind fun t212 => (if t212 = true then (some 5) else ((abugidaref05_within.f a0 96 103).bind fun t213 => (if t213 = true then (abugidaref05_Class.j0 k a0 true) else ((abugidaref05_within.f a0 144 151).bind fun t214 => (if t214 = true then (abugidaref05_Class.j0 k a0 true) else ((abugidaref05_within.f a0 200 207).bind fun t215 => (abugidaref05_Class.j0 k a0 t215)))))))))) = some r := by rw [if_neg (show ¬ (false = true) by decide)] at H; exact H
        clear H
        have H := H1
        clear H1
        replace H := Option.bind_eq_some_iff.mp H
        obtain ⟨t211, A60, H⟩ := H
        replace H : (if t211 = true then (some 3) else ((abugidaref05_within.f a0 64 95).bind fun t212 => (if t212 = true then (some 5) else ((abugidaref05_within.f a0 96 103).bind fun t213 => (if t213 = true then (abugidaref05_Class.j0 k a0 true) else ((abugidaref05_within.f a0 144 151).bind fun t214 => (if t214 = true then (abugidaref05_Class.j0 k a0 true) else ((abugidaref05_within.f a0 200 207).bind fun t215 => (abugidaref05_Class.j0 k a0 t215))))))))) = some r := H
        have A6 := Aside0.mk A60
        clear A60
        by_cases c7 : t211 = true
        · subst c7
          have H1 : (some 3) = some r := by rw [if_pos rfl] at H; exact H
          clear H
          have H := H1
          clear H1
          obtain rfl := Option.some.inj H
          go_enter Try.func22, Try.ntmps22
          go_wp2_with (first | ((with_reducible refine gate_callee (f := 36) rfl ?_); refine goesL_ (some 11) rfl rfl Try.func36 (by kernel_rfl) rfl #[.int .i64 a0, .int .i64 33, .int .i64 47] rfl (by (try simp only [List.map_toArray, List.map_cons, List.map_nil]); first | done | rfl | (simp only [List.length_drop, List.length_take]; rfl)) ?_; (with_reducible refine (abugidaref05_within.calls a0 33 47 false _ A4.out).mono ?_); rintro e w' ⟨rfl, ⟨nd, rfl⟩⟩; refine ⟨_, rfl, ?_⟩) | ((with_reducible refine gate_callee (f := 36) rfl ?_); refine goesL_ (some 14) rfl rfl Try.func36 (by kernel_rfl) rfl #[.int .i64 a0, .int .i64 48, .int .i64 57] rfl (by (try simp only [List.map_toArray, List.map_cons, List.map_nil]); first | done | rfl | (simp only [List.length_drop, List.length_take]; rfl)) ?_; (with_reducible refine (abugidaref05_within.calls a0 48 57 true _ A6.out).mono ?_); rintro e w' ⟨rfl, ⟨nd, rfl⟩⟩; refine ⟨_, rfl, ?_⟩))
          go_ret
          exact ⟨by first | rfl | (simp; done) | (simp [*]; done), by repeat (first | exact Drawn0.refl _ | apply Drawn0.step)⟩
        · replace c7 := Bool.eq_false_iff.mpr c7
          subst c7
          have H1 : ((abugidaref05_within.f a0 64 95).bind fun t212 => (if t212 = true then (some 5) else ((abugidaref05_within.f a0 96 103).bind fun t213 => (if t213 = true then (abugidaref05_Class.j0 k a0 true) else ((abugidaref05_within.f a0 144 151).bind fun t214 => (if t214 = true then (abugidaref05_Class.j0 k a0 true) else ((abugidaref05_within.f a0 200 207).bind fun t215 => (abugidaref05_Class.j0 k a0 t215)))))))) = some r := by rw [if_neg (show ¬ (false = true) by decide)] at H; exact H
          clear H
          have H := H1
          clear H1
          replace H := Option.bind_eq_some_iff.mp H
          obtain ⟨t212, A80, H⟩ := H
          replace H : (if t212 = true then (some 5) else ((abugidaref05_within.f a0 96 103).bind fun t213 => (if t213 = true then (abugidaref05_Class.j0 k a0 true) else ((abugidaref05_within.f a0 144 151).bind fun t214 => (if t214 = true then (abugidaref05_Class.j0 k a0 true) else ((abugidaref05_within.f a0 200 207).bind fun t215 => (abugidaref05_Class.j0 k a0 t215))))))) = some r := H
          have A8 := Aside0.mk A80
          clear A80
          by_cases c9 : t212 = true
          · subst c9
            have H1 : (some 5) = some r := by rw [if_pos rfl] at H; exact H
            clear H
            have H := H1
            clear H1
            obtain rfl := Option.some.inj H
            go_enter Try.func22, Try.ntmps22
            go_wp2_with (first | ((with_reducible refine gate_callee (f := 36) rfl ?_); refine goesL_ (some 11) rfl rfl Try.func36 (by kernel_rfl) rfl #[.int .i64 a0, .int .i64 33, .int .i64 47] rfl (by (try simp only [List.map_toArray, List.map_cons, List.map_nil]); first | done | rfl | (simp only [List.length_drop, List.length_take]; rfl)) ?_; (with_reducible refine (abugidaref05_within.calls a0 33 47 false _ A4.out).mono ?_); rintro e w' ⟨rfl, ⟨nd, rfl⟩⟩; refine ⟨_, rfl, ?_⟩) | ((with_reducible refine gate_callee (f := 36) rfl ?_); refine goesL_ (some 14) rfl rfl Try.func36 (by kernel_rfl) rfl #[.int .i64 a0, .int .i64 48, .int .i64 57] rfl (by (try simp only [List.map_toArray, List.map_cons, List.map_nil]); first | done | rfl | (simp only [List.length_drop, List.length_take]; rfl)) ?_; (with_reducible refine (abugidaref05_within.calls a0 48 57 false _ A6.out).mono ?_); rintro e w' ⟨rfl, ⟨nd, rfl⟩⟩; refine ⟨_, rfl, ?_⟩) | ((with_reducible refine gate_callee (f := 36) rfl ?_); refine goesL_ (some 17) rfl rfl Try.func36 (by kernel_rfl) rfl #[.int .i64 a0, .int .i64 64, .int .i64 95] rfl (by (try simp only [List.map_toArray, List.map_cons, List.map_nil]); first | done | rfl | (simp only [List.length_drop, List.length_take]; rfl)) ?_; (with_reducible refine (abugidaref05_within.calls a0 64 95 true _ A8.out).mono ?_); rintro e w' ⟨rfl, ⟨nd, rfl⟩⟩; refine ⟨_, rfl, ?_⟩))
            go_ret
            exact ⟨by first | rfl | (simp; done) | (simp [*]; done), by repeat (first | exact Drawn0.refl _ | apply Drawn0.step)⟩
          · replace c9 := Bool.eq_false_iff.mpr c9
            subst c9
            have H1 : ((abugidaref05_within.f a0 96 103).bind fun t213 => (if t213 = true then (abugidaref05_Class.j0 k a0 true) else ((abugidaref05_within.f a0 144 151).bind fun t214 => (if t214 = true then (abugidaref05_Class.j0 k a0 true) else ((abugidaref05_within.f a0 200 207).bind fun t215 => (abugidaref05_Class.j0 k a0 t215)))))) = some r := by rw [if_neg (show ¬ (false = true) by decide)] at H; exact H
            clear H
            have H := H1
            clear H1
            have HC10 := Aside0.mk H
            clear H
            go_enter Try.func22, Try.ntmps22
            go_upto_region 11 with (first | ((with_reducible refine gate_callee (f := 36) rfl ?_); refine goesL_ (some 11) rfl rfl Try.func36 (by kernel_rfl) rfl #[.int .i64 a0, .int .i64 33, .int .i64 47] rfl (by (try simp only [List.map_toArray, List.map_cons, List.map_nil]); first | done | rfl | (simp only [List.length_drop, List.length_take]; rfl)) ?_; (with_reducible refine (abugidaref05_within.calls a0 33 47 false _ A4.out).mono ?_); rintro e w' ⟨rfl, ⟨nd, rfl⟩⟩; refine ⟨_, rfl, ?_⟩) | ((with_reducible refine gate_callee (f := 36) rfl ?_); refine goesL_ (some 14) rfl rfl Try.func36 (by kernel_rfl) rfl #[.int .i64 a0, .int .i64 48, .int .i64 57] rfl (by (try simp only [List.map_toArray, List.map_cons, List.map_nil]); first | done | rfl | (simp only [List.length_drop, List.length_take]; rfl)) ?_; (with_reducible refine (abugidaref05_within.calls a0 48 57 false _ A6.out).mono ?_); rintro e w' ⟨rfl, ⟨nd, rfl⟩⟩; refine ⟨_, rfl, ?_⟩) | ((with_reducible refine gate_callee (f := 36) rfl ?_); refine goesL_ (some 17) rfl rfl Try.func36 (by kernel_rfl) rfl #[.int .i64 a0, .int .i64 64, .int .i64 95] rfl (by (try simp only [List.map_toArray, List.map_cons, List.map_nil]); first | done | rfl | (simp only [List.length_drop, List.length_take]; rfl)) ?_; (with_reducible refine (abugidaref05_within.calls a0 64 95 false _ A8.out).mono ?_); rintro e w' ⟨rfl, ⟨nd, rfl⟩⟩; refine ⟨_, rfl, ?_⟩))
            (try simp only [Act.put, List.setIfInBounds_toArray, List.set_cons_zero, List.set_cons_succ])
            go_cut [18] (fun v18 wc => ∃ (kq : Nat) (x18_9 : Bool), v18 = .bool x18_9 ∧ Aside0 (abugidaref05_Class.j0 kq a0 x18_9 = some r) ∧ Aside0 (kq ≤ k) ∧ Drawn0 w wc)
            case first =>
              have H := HC10.out
              clear HC10
              replace H := Option.bind_eq_some_iff.mp H
              obtain ⟨t213, A110, H⟩ := H
              replace H : (if t213 = true then (abugidaref05_Class.j0 k a0 true) else ((abugidaref05_within.f a0 144 151).bind fun t214 => (if t214 = true then (abugidaref05_Class.j0 k a0 true) else ((abugidaref05_within.f a0 200 207).bind fun t215 => (abugidaref05_Class.j0 k a0 t215))))) = some r := H
              have A11 := Aside0.mk A110
              clear A110
              by_cases c12 : t213 = true
              · subst c12
                have H1 : (abugidaref05_Class.j0 k a0 true) = some r := by rw [if_pos rfl] at H; exact H
                clear H
                have H := H1
                clear H1
                have H' := Aside0.mk H
                clear H
                go_wp2_with (first | ((with_reducible refine gate_callee (f := 36) rfl ?_); refine goesL_ (some 20) rfl rfl Try.func36 (by kernel_rfl) rfl #[.int .i64 a0, .int .i64 96, .int .i64 103] rfl (by (try simp only [List.map_toArray, List.map_cons, List.map_nil]); first | done | rfl | (simp only [List.length_drop, List.length_take]; rfl)) ?_; (with_reducible refine (abugidaref05_within.calls a0 96 103 true _ A11.out).mono ?_); rintro e w' ⟨rfl, ⟨nd, rfl⟩⟩; refine ⟨_, rfl, ?_⟩))
                go_meet
                case rel => exact ⟨_, (true), (by first | rfl | (simp; done) | (simp [*]; done)), H', ⟨by first | omega | exact Nat.le_refl _⟩, by repeat (first | exact Drawn0.refl _ | apply Drawn0.step)⟩
              · replace c12 := Bool.eq_false_iff.mpr c12
                subst c12
                have H1 : ((abugidaref05_within.f a0 144 151).bind fun t214 => (if t214 = true then (abugidaref05_Class.j0 k a0 true) else ((abugidaref05_within.f a0 200 207).bind fun t215 => (abugidaref05_Class.j0 k a0 t215)))) = some r := by rw [if_neg (show ¬ (false = true) by decide)] at H; exact H
                clear H
                have H := H1
                clear H1
                replace H := Option.bind_eq_some_iff.mp H
                obtain ⟨t214, A130, H⟩ := H
                replace H : (if t214 = true then (abugidaref05_Class.j0 k a0 true) else ((abugidaref05_within.f a0 200 207).bind fun t215 => (abugidaref05_Class.j0 k a0 t215))) = some r := H
                have A13 := Aside0.mk A130
                clear A130
                by_cases c14 : t214 = true
                · subst c14
                  have H1 : (abugidaref05_Class.j0 k a0 true) = some r := by rw [if_pos rfl] at H; exact H
                  clear H
                  have H := H1
                  clear H1
                  have H' := Aside0.mk H
                  clear H
                  go_wp2_with (first | ((with_reducible refine gate_callee (f := 36) rfl ?_); refine goesL_ (some 20) rfl rfl Try.func36 (by kernel_rfl) rfl #[.int .i64 a0, .int .i64 96, .int .i64 103] rfl (by (try simp only [List.map_toArray, List.map_cons, List.map_nil]); first | done | rfl | (simp only [List.length_drop, List.length_take]; rfl)) ?_; (with_reducible refine (abugidaref05_within.calls a0 96 103 false _ A11.out).mono ?_); rintro e w' ⟨rfl, ⟨nd, rfl⟩⟩; refine ⟨_, rfl, ?_⟩) | (go_at_call 36; (with_reducible refine (abugidaref05_within.calls a0 144 151 true _ A13.out).mono ?_); rintro e w' ⟨rfl, ⟨nd, rfl⟩⟩))
                  go_meet
                  case rel => exact ⟨_, (true), (by first | rfl | (simp; done) | (simp [*]; done)), H', ⟨by first | omega | exact Nat.le_refl _⟩, by repeat (first | exact Drawn0.refl _ | apply Drawn0.step)⟩
                · replace c14 := Bool.eq_false_iff.mpr c14
                  subst c14
                  have H1 : ((abugidaref05_within.f a0 200 207).bind fun t215 => (abugidaref05_Class.j0 k a0 t215)) = some r := by rw [if_neg (show ¬ (false = true) by decide)] at H; exact H
                  clear H
                  have H := H1
                  clear H1
                  replace H := Option.bind_eq_some_iff.mp H
                  obtain ⟨t215, A150, H⟩ := H
                  replace H : (abugidaref05_Class.j0 k a0 t215) = some r := H
                  have A15 := Aside0.mk A150
                  clear A150
                  have H' := Aside0.mk H
                  clear H
                  go_wp2_with (first | ((with_reducible refine gate_callee (f := 36) rfl ?_); refine goesL_ (some 20) rfl rfl Try.func36 (by kernel_rfl) rfl #[.int .i64 a0, .int .i64 96, .int .i64 103] rfl (by (try simp only [List.map_toArray, List.map_cons, List.map_nil]); first | done | rfl | (simp only [List.length_drop, List.length_take]; rfl)) ?_; (with_reducible refine (abugidaref05_within.calls a0 96 103 false _ A11.out).mono ?_); rintro e w' ⟨rfl, ⟨nd, rfl⟩⟩; refine ⟨_, rfl, ?_⟩) | (go_at_call 36; (with_reducible refine (abugidaref05_within.calls a0 144 151 false _ A13.out).mono ?_); rintro e w' ⟨rfl, ⟨nd, rfl⟩⟩) | (go_at_call 36; (with_reducible refine (abugidaref05_within.calls a0 200 207 t215 _ A15.out).mono ?_); rintro e w' ⟨rfl, ⟨nd, rfl⟩⟩))
                  go_meet
                  case rel => exact ⟨_, (t215), (by first | rfl | (simp; done) | (simp [*]; done)), H', ⟨by first | omega | exact Nat.le_refl _⟩, by repeat (first | exact Drawn0.refl _ | apply Drawn0.step)⟩
            case rest =>
              clear HC10
              try clear c1
              try clear c2
              try clear c2b0
              try clear c2b1
              try clear p2
              try clear c3
              try clear c3b0
              try clear c3b1
              try clear c5
              try clear c7
              try clear c9
              try clear c12
              try clear c14
              obtain ⟨kq, x18_9, rfl, HA, HJ9, ⟨mc9, rfl⟩⟩ := hcut
              cases kq with
              | zero => exact absurd HA.out (by simp [abugidaref05_Class.j0])
              | succ kj9 =>
                have H := HA.out
                clear HA
                simp only [abugidaref05_Class.j0] at H
                by_cases c16 : x18_9 = true
                · subst c16
                  have H1 : (some 6) = some r := by rw [if_pos rfl] at H; exact H
                  clear H
                  have H := H1
                  clear H1
                  obtain rfl := Option.some.inj H
                  go_wp2
                  go_ret
                  exact ⟨by first | rfl | (simp; done) | (simp [*]; done), by repeat (first | exact Drawn0.refl _ | apply Drawn0.step)⟩
                · replace c16 := Bool.eq_false_iff.mpr c16
                  subst c16
                  have H1 : ((abugidaref05_within.f a0 104 127).bind fun t216 => (if t216 = true then (some 7) else ((abugidaref05_within.f a0 128 143).bind fun t217 => (if t217 = true then (some 8) else ((abugidaref05_within.f a0 152 183).bind fun t218 => (if t218 = true then (some 9) else (if a0 = 184 then (some 10) else ((abugidaref05_within.f a0 185 191).bind fun t219 => (if t219 = true then (some 11) else ((abugidaref05_within.f a0 192 199).bind fun t220 => (if t220 = true then (some 12) else (if a0 = 240 then (some 13) else (if a0 = 241 then (some 14) else (some 0)))))))))))))) = some r := by rw [if_neg (show ¬ (false = true) by decide)] at H; exact H
                  clear H
                  have H := H1
                  clear H1
                  replace H := Option.bind_eq_some_iff.mp H
                  obtain ⟨t216, A170, H⟩ := H
                  replace H : (if t216 = true then (some 7) else ((abugidaref05_within.f a0 128 143).bind fun t217 => (if t217 = true then (some 8) else ((abugidaref05_within.f a0 152 183).bind fun t218 => (if t218 = true then (some 9) else (if a0 = 184 then (some 10) else ((abugidaref05_within.f a0 185 191).bind fun t219 => (if t219 = true then (some 11) else ((abugidaref05_within.f a0 192 199).bind fun t220 => (if t220 = true then (some 12) else (if a0 = 240 then (some 13) else (if a0 = 241 then (some 14) else (some 0))))))))))))) = some r := H
                  have A17 := Aside0.mk A170
                  clear A170
                  by_cases c18 : t216 = true
                  · subst c18
                    have H1 : (some 7) = some r := by rw [if_pos rfl] at H; exact H
                    clear H
                    have H := H1
                    clear H1
                    obtain rfl := Option.some.inj H
                    go_wp2_with (first | ((with_reducible refine gate_callee (f := 36) rfl ?_); refine goesL_ (some 31) rfl rfl Try.func36 (by kernel_rfl) rfl #[.int .i64 a0, .int .i64 104, .int .i64 127] rfl (by (try simp only [List.map_toArray, List.map_cons, List.map_nil]); first | done | rfl | (simp only [List.length_drop, List.length_take]; rfl)) ?_; (with_reducible refine (abugidaref05_within.calls a0 104 127 true _ A17.out).mono ?_); rintro e w' ⟨rfl, ⟨nd, rfl⟩⟩; refine ⟨_, rfl, ?_⟩))
                    go_ret
                    exact ⟨by first | rfl | (simp; done) | (simp [*]; done), by repeat (first | exact Drawn0.refl _ | apply Drawn0.step)⟩
                  · replace c18 := Bool.eq_false_iff.mpr c18
                    subst c18
                    have H1 : ((abugidaref05_within.f a0 128 143).bind fun t217 => (if t217 = true then (some 8) else ((abugidaref05_within.f a0 152 183).bind fun t218 => (if t218 = true then (some 9) else (if a0 = 184 then (some 10) else ((abugidaref05_within.f a0 185 191).bind fun t219 => (if t219 = true then (some 11) else ((abugidaref05_within.f a0 192 199).bind fun t220 => (if t220 = true then (some 12) else (if a0 = 240 then (some 13) else (if a0 = 241 then (some 14) else (some 0)))))))))))) = some r := by rw [if_neg (show ¬ (false = true) by decide)] at H; exact H
                    clear H
                    have H := H1
                    clear H1
                    replace H := Option.bind_eq_some_iff.mp H
                    obtain ⟨t217, A190, H⟩ := H
                    replace H : (if t217 = true then (some 8) else ((abugidaref05_within.f a0 152 183).bind fun t218 => (if t218 = true then (some 9) else (if a0 = 184 then (some 10) else ((abugidaref05_within.f a0 185 191).bind fun t219 => (if t219 = true then (some 11) else ((abugidaref05_within.f a0 192 199).bind fun t220 => (if t220 = true then (some 12) else (if a0 = 240 then (some 13) else (if a0 = 241 then (some 14) else (some 0))))))))))) = some r := H
                    have A19 := Aside0.mk A190
                    clear A190
                    by_cases c20 : t217 = true
                    · subst c20
                      have H1 : (some 8) = some r := by rw [if_pos rfl] at H; exact H
                      clear H
                      have H := H1
                      clear H1
                      obtain rfl := Option.some.inj H
                      go_wp2_with (first | ((with_reducible refine gate_callee (f := 36) rfl ?_); refine goesL_ (some 31) rfl rfl Try.func36 (by kernel_rfl) rfl #[.int .i64 a0, .int .i64 104, .int .i64 127] rfl (by (try simp only [List.map_toArray, List.map_cons, List.map_nil]); first | done | rfl | (simp only [List.length_drop, List.length_take]; rfl)) ?_; (with_reducible refine (abugidaref05_within.calls a0 104 127 false _ A17.out).mono ?_); rintro e w' ⟨rfl, ⟨nd, rfl⟩⟩; refine ⟨_, rfl, ?_⟩) | ((with_reducible refine gate_callee (f := 36) rfl ?_); refine goesL_ (some 34) rfl rfl Try.func36 (by kernel_rfl) rfl #[.int .i64 a0, .int .i64 128, .int .i64 143] rfl (by (try simp only [List.map_toArray, List.map_cons, List.map_nil]); first | done | rfl | (simp only [List.length_drop, List.length_take]; rfl)) ?_; (with_reducible refine (abugidaref05_within.calls a0 128 143 true _ A19.out).mono ?_); rintro e w' ⟨rfl, ⟨nd, rfl⟩⟩; refine ⟨_, rfl, ?_⟩))
                      go_ret
                      exact ⟨by first | rfl | (simp; done) | (simp [*]; done), by repeat (first | exact Drawn0.refl _ | apply Drawn0.step)⟩
                    · replace c20 := Bool.eq_false_iff.mpr c20
                      subst c20
                      have H1 : ((abugidaref05_within.f a0 152 183).bind fun t218 => (if t218 = true then (some 9) else (if a0 = 184 then (some 10) else ((abugidaref05_within.f a0 185 191).bind fun t219 => (if t219 = true then (some 11) else ((abugidaref05_within.f a0 192 199).bind fun t220 => (if t220 = true then (some 12) else (if a0 = 240 then (some 13) else (if a0 = 241 then (some 14) else (some 0)))))))))) = some r := by rw [if_neg (show ¬ (false = true) by decide)] at H; exact H
                      clear H
                      have H := H1
                      clear H1
                      replace H := Option.bind_eq_some_iff.mp H
                      obtain ⟨t218, A210, H⟩ := H
                      replace H : (if t218 = true then (some 9) else (if a0 = 184 then (some 10) else ((abugidaref05_within.f a0 185 191).bind fun t219 => (if t219 = true then (some 11) else ((abugidaref05_within.f a0 192 199).bind fun t220 => (if t220 = true then (some 12) else (if a0 = 240 then (some 13) else (if a0 = 241 then (some 14) else (some 0))))))))) = some r := H
                      have A21 := Aside0.mk A210
                      clear A210
                      by_cases c22 : t218 = true
                      · subst c22
                        have H1 : (some 9) = some r := by rw [if_pos rfl] at H; exact H
                        clear H
                        have H := H1
                        clear H1
                        obtain rfl := Option.some.inj H
                        go_wp2_with (first | ((with_reducible refine gate_callee (f := 36) rfl ?_); refine goesL_ (some 31) rfl rfl Try.func36 (by kernel_rfl) rfl #[.int .i64 a0, .int .i64 104, .int .i64 127] rfl (by (try simp only [List.map_toArray, List.map_cons, List.map_nil]); first | done | rfl | (simp only [List.length_drop, List.length_take]; rfl)) ?_; (with_reducible refine (abugidaref05_within.calls a0 104 127 false _ A17.out).mono ?_); rintro e w' ⟨rfl, ⟨nd, rfl⟩⟩; refine ⟨_, rfl, ?_⟩) | ((with_reducible refine gate_callee (f := 36) rfl ?_); refine goesL_ (some 34) rfl rfl Try.func36 (by kernel_rfl) rfl #[.int .i64 a0, .int .i64 128, .int .i64 143] rfl (by (try simp only [List.map_toArray, List.map_cons, List.map_nil]); first | done | rfl | (simp only [List.length_drop, List.length_take]; rfl)) ?_; (with_reducible refine (abugidaref05_within.calls a0 128 143 false _ A19.out).mono ?_); rintro e w' ⟨rfl, ⟨nd, rfl⟩⟩; refine ⟨_, rfl, ?_⟩) | ((with_reducible refine gate_callee (f := 36) rfl ?_); refine goesL_ (some 37) rfl rfl Try.func36 (by kernel_rfl) rfl #[.int .i64 a0, .int .i64 152, .int .i64 183] rfl (by (try simp only [List.map_toArray, List.map_cons, List.map_nil]); first | done | rfl | (simp only [List.length_drop, List.length_take]; rfl)) ?_; (with_reducible refine (abugidaref05_within.calls a0 152 183 true _ A21.out).mono ?_); rintro e w' ⟨rfl, ⟨nd, rfl⟩⟩; refine ⟨_, rfl, ?_⟩))
                        go_ret
                        exact ⟨by first | rfl | (simp; done) | (simp [*]; done), by repeat (first | exact Drawn0.refl _ | apply Drawn0.step)⟩
                      · replace c22 := Bool.eq_false_iff.mpr c22
                        subst c22
                        have H1 : (if a0 = 184 then (some 10) else ((abugidaref05_within.f a0 185 191).bind fun t219 => (if t219 = true then (some 11) else ((abugidaref05_within.f a0 192 199).bind fun t220 => (if t220 = true then (some 12) else (if a0 = 240 then (some 13) else (if a0 = 241 then (some 14) else (some 0)))))))) = some r := by rw [if_neg (show ¬ (false = true) by decide)] at H; exact H
                        clear H
                        have H := H1
                        clear H1
                        by_cases c23 : a0 = 184
                        · rw [if_pos c23] at H
                          have c23b0 : (a0 == 184) = true := beq_iff_eq.mpr c23
                          have c23b1 : (a0 != 184) = false := bne_eq_false_iff_eq.mpr c23
                          clear c23
                          obtain rfl := Option.some.inj H
                          go_wp2_with (first | ((with_reducible refine gate_callee (f := 36) rfl ?_); refine goesL_ (some 31) rfl rfl Try.func36 (by kernel_rfl) rfl #[.int .i64 a0, .int .i64 104, .int .i64 127] rfl (by (try simp only [List.map_toArray, List.map_cons, List.map_nil]); first | done | rfl | (simp only [List.length_drop, List.length_take]; rfl)) ?_; (with_reducible refine (abugidaref05_within.calls a0 104 127 false _ A17.out).mono ?_); rintro e w' ⟨rfl, ⟨nd, rfl⟩⟩; refine ⟨_, rfl, ?_⟩) | ((with_reducible refine gate_callee (f := 36) rfl ?_); refine goesL_ (some 34) rfl rfl Try.func36 (by kernel_rfl) rfl #[.int .i64 a0, .int .i64 128, .int .i64 143] rfl (by (try simp only [List.map_toArray, List.map_cons, List.map_nil]); first | done | rfl | (simp only [List.length_drop, List.length_take]; rfl)) ?_; (with_reducible refine (abugidaref05_within.calls a0 128 143 false _ A19.out).mono ?_); rintro e w' ⟨rfl, ⟨nd, rfl⟩⟩; refine ⟨_, rfl, ?_⟩) | ((with_reducible refine gate_callee (f := 36) rfl ?_); refine goesL_ (some 37) rfl rfl Try.func36 (by kernel_rfl) rfl #[.int .i64 a0, .int .i64 152, .int .i64 183] rfl (by (try simp only [List.map_toArray, List.map_cons, List.map_nil]); first | done | rfl | (simp only [List.length_drop, List.length_take]; rfl)) ?_; (with_reducible refine (abugidaref05_within.calls a0 152 183 false _ A21.out).mono ?_); rintro e w' ⟨rfl, ⟨nd, rfl⟩⟩; refine ⟨_, rfl, ?_⟩))
                          go_ret
                          exact ⟨by first | rfl | (simp; done) | (simp [*]; done), by repeat (first | exact Drawn0.refl _ | apply Drawn0.step)⟩
                        · rw [if_neg c23] at H
                          have c23b0 : (a0 == 184) = false := beq_eq_false_iff_ne.mpr c23
                          have c23b1 : (a0 != 184) = true := bne_iff_ne.mpr c23
                          replace H := Option.bind_eq_some_iff.mp H
                          obtain ⟨t219, A240, H⟩ := H
                          replace H : (if t219 = true then (some 11) else ((abugidaref05_within.f a0 192 199).bind fun t220 => (if t220 = true then (some 12) else (if a0 = 240 then (some 13) else (if a0 = 241 then (some 14) else (some 0)))))) = some r := H
                          have A24 := Aside0.mk A240
                          clear A240
                          by_cases c25 : t219 = true
                          · subst c25
                            have H1 : (some 11) = some r := by rw [if_pos rfl] at H; exact H
                            clear H
                            have H := H1
                            clear H1
                            obtain rfl := Option.some.inj H
                            go_wp2_with (first | ((with_reducible refine gate_callee (f := 36) rfl ?_); refine goesL_ (some 31) rfl rfl Try.func36 (by kernel_rfl) rfl #[.int .i64 a0, .int .i64 104, .int .i64 127] rfl (by (try simp only [List.map_toArray, List.map_cons, List.map_nil]); first | done | rfl | (simp only [List.length_drop, List.length_take]; rfl)) ?_; (with_reducible refine (abugidaref05_within.calls a0 104 127 false _ A17.out).mono ?_); rintro e w' ⟨rfl, ⟨nd, rfl⟩⟩; refine ⟨_, rfl, ?_⟩) | ((with_reducible refine gate_callee (f := 36) rfl ?_); refine goesL_ (some 34) rfl rfl Try.func36 (by kernel_rfl) rfl #[.int .i64 a0, .int .i64 128, .int .i64 143] rfl (by (try simp only [List.map_toArray, List.map_cons, List.map_nil]); first | done | rfl | (simp only [List.length_drop, List.length_take]; rfl)) ?_; (with_reducible refine (abugidaref05_within.calls a0 128 143 false _ A19.out).mono ?_); rintro e w' ⟨rfl, ⟨nd, rfl⟩⟩; refine ⟨_, rfl, ?_⟩) | ((with_reducible refine gate_callee (f := 36) rfl ?_); refine goesL_ (some 37) rfl rfl Try.func36 (by kernel_rfl) rfl #[.int .i64 a0, .int .i64 152, .int .i64 183] rfl (by (try simp only [List.map_toArray, List.map_cons, List.map_nil]); first | done | rfl | (simp only [List.length_drop, List.length_take]; rfl)) ?_; (with_reducible refine (abugidaref05_within.calls a0 152 183 false _ A21.out).mono ?_); rintro e w' ⟨rfl, ⟨nd, rfl⟩⟩; refine ⟨_, rfl, ?_⟩) | ((with_reducible refine gate_callee (f := 36) rfl ?_); refine goesL_ (some 43) rfl rfl Try.func36 (by kernel_rfl) rfl #[.int .i64 a0, .int .i64 185, .int .i64 191] rfl (by (try simp only [List.map_toArray, List.map_cons, List.map_nil]); first | done | rfl | (simp only [List.length_drop, List.length_take]; rfl)) ?_; (with_reducible refine (abugidaref05_within.calls a0 185 191 true _ A24.out).mono ?_); rintro e w' ⟨rfl, ⟨nd, rfl⟩⟩; refine ⟨_, rfl, ?_⟩))
                            go_ret
                            exact ⟨by first | rfl | (simp; done) | (simp [*]; done), by repeat (first | exact Drawn0.refl _ | apply Drawn0.step)⟩
                          · replace c25 := Bool.eq_false_iff.mpr c25
                            subst c25
                            have H1 : ((abugidaref05_within.f a0 192 199).bind fun t220 => (if t220 = true then (some 12) else (if a0 = 240 then (some 13) else (if a0 = 241 then (some 14) else (some 0))))) = some r := by rw [if_neg (show ¬ (false = true) by decide)] at H; exact H
                            clear H
                            have H := H1
                            clear H1
                            replace H := Option.bind_eq_some_iff.mp H
                            obtain ⟨t220, A260, H⟩ := H
                            replace H : (if t220 = true then (some 12) else (if a0 = 240 then (some 13) else (if a0 = 241 then (some 14) else (some 0)))) = some r := H
                            have A26 := Aside0.mk A260
                            clear A260
                            by_cases c27 : t220 = true
                            · subst c27
                              have H1 : (some 12) = some r := by rw [if_pos rfl] at H; exact H
                              clear H
                              have H := H1
                              clear H1
                              obtain rfl := Option.some.inj H
                              go_wp2_with (first | ((with_reducible refine gate_callee (f := 36) rfl ?_); refine goesL_ (some 31) rfl rfl Try.func36 (by kernel_rfl) rfl #[.int .i64 a0, .int .i64 104, .int .i64 127] rfl (by (try simp only [List.map_toArray, List.map_cons, List.map_nil]); first | done | rfl | (simp only [List.length_drop, List.length_take]; rfl)) ?_; (with_reducible refine (abugidaref05_within.calls a0 104 127 false _ A17.out).mono ?_); rintro e w' ⟨rfl, ⟨nd, rfl⟩⟩; refine ⟨_, rfl, ?_⟩) | ((with_reducible refine gate_callee (f := 36) rfl ?_); refine goesL_ (some 34) rfl rfl Try.func36 (by kernel_rfl) rfl #[.int .i64 a0, .int .i64 128, .int .i64 143] rfl (by (try simp only [List.map_toArray, List.map_cons, List.map_nil]); first | done | rfl | (simp only [List.length_drop, List.length_take]; rfl)) ?_; (with_reducible refine (abugidaref05_within.calls a0 128 143 false _ A19.out).mono ?_); rintro e w' ⟨rfl, ⟨nd, rfl⟩⟩; refine ⟨_, rfl, ?_⟩) | ((with_reducible refine gate_callee (f := 36) rfl ?_); refine goesL_ (some 37) rfl rfl Try.func36 (by kernel_rfl) rfl #[.int .i64 a0, .int .i64 152, .int .i64 183] rfl (by (try simp only [List.map_toArray, List.map_cons, List.map_nil]); first | done | rfl | (simp only [List.length_drop, List.length_take]; rfl)) ?_; (with_reducible refine (abugidaref05_within.calls a0 152 183 false _ A21.out).mono ?_); rintro e w' ⟨rfl, ⟨nd, rfl⟩⟩; refine ⟨_, rfl, ?_⟩) | ((with_reducible refine gate_callee (f := 36) rfl ?_); refine goesL_ (some 43) rfl rfl Try.func36 (by kernel_rfl) rfl #[.int .i64 a0, .int .i64 185, .int .i64 191] rfl (by (try simp only [List.map_toArray, List.map_cons, List.map_nil]); first | done | rfl | (simp only [List.length_drop, List.length_take]; rfl)) ?_; (with_reducible refine (abugidaref05_within.calls a0 185 191 false _ A24.out).mono ?_); rintro e w' ⟨rfl, ⟨nd, rfl⟩⟩; refine ⟨_, rfl, ?_⟩) | ((with_reducible refine gate_callee (f := 36) rfl ?_); refine goesL_ (some 46) rfl rfl Try.func36 (by kernel_rfl) rfl #[.int .i64 a0, .int .i64 192, .int .i64 199] rfl (by (try simp only [List.map_toArray, List.map_cons, List.map_nil]); first | done | rfl | (simp only [List.length_drop, List.length_take]; rfl)) ?_; (with_reducible refine (abugidaref05_within.calls a0 192 199 true _ A26.out).mono ?_); rintro e w' ⟨rfl, ⟨nd, rfl⟩⟩; refine ⟨_, rfl, ?_⟩))
                              go_ret
                              exact ⟨by first | rfl | (simp; done) | (simp [*]; done), by repeat (first | exact Drawn0.refl _ | apply Drawn0.step)⟩
                            · replace c27 := Bool.eq_false_iff.mpr c27
                              subst c27
                              have H1 : (if a0 = 240 then (some 13) else (if a0 = 241 then (some 14) else (some 0))) = some r := by rw [if_neg (show ¬ (false = true) by decide)] at H; exact H
                              clear H
                              have H := H1
                              clear H1
                              by_cases c28 : a0 = 240
                              · rw [if_pos c28] at H
                                have c28b0 : (a0 == 240) = true := beq_iff_eq.mpr c28
                                have c28b1 : (a0 != 240) = false := bne_eq_false_iff_eq.mpr c28
                                clear c28
                                obtain rfl := Option.some.inj H
                                go_wp2_with (first | ((with_reducible refine gate_callee (f := 36) rfl ?_); refine goesL_ (some 31) rfl rfl Try.func36 (by kernel_rfl) rfl #[.int .i64 a0, .int .i64 104, .int .i64 127] rfl (by (try simp only [List.map_toArray, List.map_cons, List.map_nil]); first | done | rfl | (simp only [List.length_drop, List.length_take]; rfl)) ?_; (with_reducible refine (abugidaref05_within.calls a0 104 127 false _ A17.out).mono ?_); rintro e w' ⟨rfl, ⟨nd, rfl⟩⟩; refine ⟨_, rfl, ?_⟩) | ((with_reducible refine gate_callee (f := 36) rfl ?_); refine goesL_ (some 34) rfl rfl Try.func36 (by kernel_rfl) rfl #[.int .i64 a0, .int .i64 128, .int .i64 143] rfl (by (try simp only [List.map_toArray, List.map_cons, List.map_nil]); first | done | rfl | (simp only [List.length_drop, List.length_take]; rfl)) ?_; (with_reducible refine (abugidaref05_within.calls a0 128 143 false _ A19.out).mono ?_); rintro e w' ⟨rfl, ⟨nd, rfl⟩⟩; refine ⟨_, rfl, ?_⟩) | ((with_reducible refine gate_callee (f := 36) rfl ?_); refine goesL_ (some 37) rfl rfl Try.func36 (by kernel_rfl) rfl #[.int .i64 a0, .int .i64 152, .int .i64 183] rfl (by (try simp only [List.map_toArray, List.map_cons, List.map_nil]); first | done | rfl | (simp only [List.length_drop, List.length_take]; rfl)) ?_; (with_reducible refine (abugidaref05_within.calls a0 152 183 false _ A21.out).mono ?_); rintro e w' ⟨rfl, ⟨nd, rfl⟩⟩; refine ⟨_, rfl, ?_⟩) | ((with_reducible refine gate_callee (f := 36) rfl ?_); refine goesL_ (some 43) rfl rfl Try.func36 (by kernel_rfl) rfl #[.int .i64 a0, .int .i64 185, .int .i64 191] rfl (by (try simp only [List.map_toArray, List.map_cons, List.map_nil]); first | done | rfl | (simp only [List.length_drop, List.length_take]; rfl)) ?_; (with_reducible refine (abugidaref05_within.calls a0 185 191 false _ A24.out).mono ?_); rintro e w' ⟨rfl, ⟨nd, rfl⟩⟩; refine ⟨_, rfl, ?_⟩) | ((with_reducible refine gate_callee (f := 36) rfl ?_); refine goesL_ (some 46) rfl rfl Try.func36 (by kernel_rfl) rfl #[.int .i64 a0, .int .i64 192, .int .i64 199] rfl (by (try simp only [List.map_toArray, List.map_cons, List.map_nil]); first | done | rfl | (simp only [List.length_drop, List.length_take]; rfl)) ?_; (with_reducible refine (abugidaref05_within.calls a0 192 199 false _ A26.out).mono ?_); rintro e w' ⟨rfl, ⟨nd, rfl⟩⟩; refine ⟨_, rfl, ?_⟩))
                                go_ret
                                exact ⟨by first | rfl | (simp; done) | (simp [*]; done), by repeat (first | exact Drawn0.refl _ | apply Drawn0.step)⟩
                              · rw [if_neg c28] at H
                                have c28b0 : (a0 == 240) = false := beq_eq_false_iff_ne.mpr c28
                                have c28b1 : (a0 != 240) = true := bne_iff_ne.mpr c28
                                by_cases c29 : a0 = 241
                                · rw [if_pos c29] at H
                                  have c29b0 : (a0 == 241) = true := beq_iff_eq.mpr c29
                                  have c29b1 : (a0 != 241) = false := bne_eq_false_iff_eq.mpr c29
                                  clear c29
                                  obtain rfl := Option.some.inj H
                                  go_wp2_with (first | ((with_reducible refine gate_callee (f := 36) rfl ?_); refine goesL_ (some 31) rfl rfl Try.func36 (by kernel_rfl) rfl #[.int .i64 a0, .int .i64 104, .int .i64 127] rfl (by (try simp only [List.map_toArray, List.map_cons, List.map_nil]); first | done | rfl | (simp only [List.length_drop, List.length_take]; rfl)) ?_; (with_reducible refine (abugidaref05_within.calls a0 104 127 false _ A17.out).mono ?_); rintro e w' ⟨rfl, ⟨nd, rfl⟩⟩; refine ⟨_, rfl, ?_⟩) | ((with_reducible refine gate_callee (f := 36) rfl ?_); refine goesL_ (some 34) rfl rfl Try.func36 (by kernel_rfl) rfl #[.int .i64 a0, .int .i64 128, .int .i64 143] rfl (by (try simp only [List.map_toArray, List.map_cons, List.map_nil]); first | done | rfl | (simp only [List.length_drop, List.length_take]; rfl)) ?_; (with_reducible refine (abugidaref05_within.calls a0 128 143 false _ A19.out).mono ?_); rintro e w' ⟨rfl, ⟨nd, rfl⟩⟩; refine ⟨_, rfl, ?_⟩) | ((with_reducible refine gate_callee (f := 36) rfl ?_); refine goesL_ (some 37) rfl rfl Try.func36 (by kernel_rfl) rfl #[.int .i64 a0, .int .i64 152, .int .i64 183] rfl (by (try simp only [List.map_toArray, List.map_cons, List.map_nil]); first | done | rfl | (simp only [List.length_drop, List.length_take]; rfl)) ?_; (with_reducible refine (abugidaref05_within.calls a0 152 183 false _ A21.out).mono ?_); rintro e w' ⟨rfl, ⟨nd, rfl⟩⟩; refine ⟨_, rfl, ?_⟩) | ((with_reducible refine gate_callee (f := 36) rfl ?_); refine goesL_ (some 43) rfl rfl Try.func36 (by kernel_rfl) rfl #[.int .i64 a0, .int .i64 185, .int .i64 191] rfl (by (try simp only [List.map_toArray, List.map_cons, List.map_nil]); first | done | rfl | (simp only [List.length_drop, List.length_take]; rfl)) ?_; (with_reducible refine (abugidaref05_within.calls a0 185 191 false _ A24.out).mono ?_); rintro e w' ⟨rfl, ⟨nd, rfl⟩⟩; refine ⟨_, rfl, ?_⟩) | ((with_reducible refine gate_callee (f := 36) rfl ?_); refine goesL_ (some 46) rfl rfl Try.func36 (by kernel_rfl) rfl #[.int .i64 a0, .int .i64 192, .int .i64 199] rfl (by (try simp only [List.map_toArray, List.map_cons, List.map_nil]); first | done | rfl | (simp only [List.length_drop, List.length_take]; rfl)) ?_; (with_reducible refine (abugidaref05_within.calls a0 192 199 false _ A26.out).mono ?_); rintro e w' ⟨rfl, ⟨nd, rfl⟩⟩; refine ⟨_, rfl, ?_⟩))
                                  go_ret
                                  exact ⟨by first | rfl | (simp; done) | (simp [*]; done), by repeat (first | exact Drawn0.refl _ | apply Drawn0.step)⟩
                                · rw [if_neg c29] at H
                                  have c29b0 : (a0 == 241) = false := beq_eq_false_iff_ne.mpr c29
                                  have c29b1 : (a0 != 241) = true := bne_iff_ne.mpr c29
                                  obtain rfl := Option.some.inj H
                                  go_wp2_with (first | ((with_reducible refine gate_callee (f := 36) rfl ?_); refine goesL_ (some 31) rfl rfl Try.func36 (by kernel_rfl) rfl #[.int .i64 a0, .int .i64 104, .int .i64 127] rfl (by (try simp only [List.map_toArray, List.map_cons, List.map_nil]); first | done | rfl | (simp only [List.length_drop, List.length_take]; rfl)) ?_; (with_reducible refine (abugidaref05_within.calls a0 104 127 false _ A17.out).mono ?_); rintro e w' ⟨rfl, ⟨nd, rfl⟩⟩; refine ⟨_, rfl, ?_⟩) | ((with_reducible refine gate_callee (f := 36) rfl ?_); refine goesL_ (some 34) rfl rfl Try.func36 (by kernel_rfl) rfl #[.int .i64 a0, .int .i64 128, .int .i64 143] rfl (by (try simp only [List.map_toArray, List.map_cons, List.map_nil]); first | done | rfl | (simp only [List.length_drop, List.length_take]; rfl)) ?_; (with_reducible refine (abugidaref05_within.calls a0 128 143 false _ A19.out).mono ?_); rintro e w' ⟨rfl, ⟨nd, rfl⟩⟩; refine ⟨_, rfl, ?_⟩) | ((with_reducible refine gate_callee (f := 36) rfl ?_); refine goesL_ (some 37) rfl rfl Try.func36 (by kernel_rfl) rfl #[.int .i64 a0, .int .i64 152, .int .i64 183] rfl (by (try simp only [List.map_toArray, List.map_cons, List.map_nil]); first | done | rfl | (simp only [List.length_drop, List.length_take]; rfl)) ?_; (with_reducible refine (abugidaref05_within.calls a0 152 183 false _ A21.out).mono ?_); rintro e w' ⟨rfl, ⟨nd, rfl⟩⟩; refine ⟨_, rfl, ?_⟩) | ((with_reducible refine gate_callee (f := 36) rfl ?_); refine goesL_ (some 43) rfl rfl Try.func36 (by kernel_rfl) rfl #[.int .i64 a0, .int .i64 185, .int .i64 191] rfl (by (try simp only [List.map_toArray, List.map_cons, List.map_nil]); first | done | rfl | (simp only [List.length_drop, List.length_take]; rfl)) ?_; (with_reducible refine (abugidaref05_within.calls a0 185 191 false _ A24.out).mono ?_); rintro e w' ⟨rfl, ⟨nd, rfl⟩⟩; refine ⟨_, rfl, ?_⟩) | ((with_reducible refine gate_callee (f := 36) rfl ?_); refine goesL_ (some 46) rfl rfl Try.func36 (by kernel_rfl) rfl #[.int .i64 a0, .int .i64 192, .int .i64 199] rfl (by (try simp only [List.map_toArray, List.map_cons, List.map_nil]); first | done | rfl | (simp only [List.length_drop, List.length_take]; rfl)) ?_; (with_reducible refine (abugidaref05_within.calls a0 192 199 false _ A26.out).mono ?_); rintro e w' ⟨rfl, ⟨nd, rfl⟩⟩; refine ⟨_, rfl, ?_⟩))
                                  go_ret
                                  exact ⟨by first | rfl | (simp; done) | (simp [*]; done), by repeat (first | exact Drawn0.refl _ | apply Drawn0.step)⟩

/-! ### abugidaref05_Strong: function 19 -/
def abugidaref05_Strong.f (k : Nat) (a0 : Int) : Option (Int) := (abugidaref05_Class.f k a0).bind fun t221 => (if t221 = 3 then (some 3) else ((some (([0, 1, 2, 1] : List Int) : List Int)).bind fun y222 => ((abugidaref05_Script.f a0).bind fun t225 => (if 0 ≤ t225 then (if t225 < (y222.length : Int) then (some (rd y222 t225)) else (none)) else (none)))))
theorem abugidaref05_Strong.mono : ∀ a0 k, LeO (abugidaref05_Strong.f k a0) (abugidaref05_Strong.f (k + 1) a0) := by
  intro a0 k
  unfold abugidaref05_Strong.f
  repeat' first
      | (with_reducible exact abugidaref05_Class.mono _ _)
      | (with_reducible exact LeO.refl _)
      | (with_reducible exact LeO.none _)
      | (with_reducible refine LeO.ite ?_ ?_)
      | (with_reducible refine LeO.bind ?_ (fun _ => ?_))
      | exact abugidaref05_Class.mono _ _
      | exact LeO.none _
      | refine LeO.ite ?_ ?_
      | refine LeO.bind ?_ (fun _ => ?_)
set_option maxHeartbeats 8000000 in
set_option maxRecDepth 100000 in
theorem abugidaref05_Strong.calls (k : Nat) (a0 : Int) (r : Int) (w : World) (h : abugidaref05_Strong.f k a0 = some r) :
    Calls Try.prog 19 #[.int .i64 a0] w fun e w' => e = .returned (.int .i64 r) ∧ Below w.heap.size w w' := by
  have HB := Aside0.mk (Below.refl w.heap.size w)
  have H : ((abugidaref05_Class.f k a0).bind fun t221 => (if t221 = 3 then (some 3) else ((some (([0, 1, 2, 1] : List Int) : List Int)).bind fun y222 => ((abugidaref05_Script.f a0).bind fun t225 => (if 0 ≤ t225 then (if t225 < (y222.length : Int) then (some (rd y222 t225)) else (none)) else (none)))))) = some r := h
  clear h
  replace H := Option.bind_eq_some_iff.mp H
  obtain ⟨t221, A20, H⟩ := H
  replace H : (if t221 = 3 then (some 3) else ((some (([0, 1, 2, 1] : List Int) : List Int)).bind fun y222 => ((abugidaref05_Script.f a0).bind fun t225 => (if 0 ≤ t225 then (if t225 < (y222.length : Int) then (some (rd y222 t225)) else (none)) else (none))))) = some r := H
  have A2 := Aside0.mk A20
  clear A20
  by_cases c3 : t221 = 3
  · rw [if_pos c3] at H
    have c3b0 : (t221 == 3) = true := beq_iff_eq.mpr c3
    have c3b1 : (t221 != 3) = false := bne_eq_false_iff_eq.mpr c3
    clear c3
    obtain rfl := Option.some.inj H
    go_enter Try.func19, Try.ntmps19
    go_wp2_with (first | ((with_reducible refine gate_callee (f := 22) rfl ?_); refine goesL_ (some 4) rfl rfl Try.func22 (by kernel_rfl) rfl #[.int .i64 a0] rfl (by (try simp only [List.map_toArray, List.map_cons, List.map_nil]); first | done | rfl | (simp only [List.length_drop, List.length_take]; rfl)) ?_; (with_reducible refine (abugidaref05_Class.calls k a0 t221 _ A2.out).mono ?_); rintro e w' ⟨rfl, ⟨nd, rfl⟩⟩; refine ⟨_, rfl, ?_⟩))
    go_ret
    exact ⟨by first | rfl | (simp [errW_none, errW_some] <;> rfl) | (simp [*, errW_none, errW_some] <;> rfl), by repeat (first | (with_reducible first | exact HB.out | apply below_alloc | apply pw_below_drewN | apply below_drew1) | exact HB.out)⟩
  · rw [if_neg c3] at H
    have c3b0 : (t221 == 3) = false := beq_eq_false_iff_ne.mpr c3
    have c3b1 : (t221 != 3) = true := bne_iff_ne.mpr c3
    obtain ⟨y222, hy222⟩ : ∃ y_ : List Int, y_ = (([0, 1, 2, 1] : List Int)) := ⟨_, rfl⟩
    replace H : ((abugidaref05_Script.f a0).bind fun t225 => (if 0 ≤ t225 then (if t225 < (y222.length : Int) then (some (rd y222 t225)) else (none)) else (none))) = some r := by first | (rw [hy222]; with_reducible exact H) | (have H2_ := (Option.bind_some _ _).symm.trans H; rw [hy222]; with_reducible exact H2_) | (have H2_ := (Option.bind_some _ _).symm.trans H; with_reducible exact H2_) | with_reducible exact H | (rw [hy222]; exact H) | exact H
    have Ny222 := Aside0.mk hy222
    clear hy222
    replace H := Option.bind_eq_some_iff.mp H
    obtain ⟨t225, A40, H⟩ := H
    replace H : (if 0 ≤ t225 then (if t225 < (y222.length : Int) then (some (rd y222 t225)) else (none)) else (none)) = some r := H
    have A4 := Aside0.mk A40
    clear A40
    by_cases c5 : 0 ≤ t225
    · rw [if_pos c5] at H
      have c5b0 : decide (0 ≤ t225) = true := decide_eq_true c5
      clear c5
      by_cases c6 : t225 < (y222.length : Int)
      · rw [if_pos c6] at H
        have c6b0 : decide (t225 < (y222.length : Int)) = true := decide_eq_true c6
        clear c6
        obtain rfl := Option.some.inj H
        go_enter Try.func19, Try.ntmps19
        go_wp2_with (first | ((with_reducible refine gate_callee (f := 22) rfl ?_); refine goesL_ (some 4) rfl rfl Try.func22 (by kernel_rfl) rfl #[.int .i64 a0] rfl (by (try simp only [List.map_toArray, List.map_cons, List.map_nil]); first | done | rfl | (simp only [List.length_drop, List.length_take]; rfl)) ?_; (with_reducible refine (abugidaref05_Class.calls k a0 t221 _ A2.out).mono ?_); rintro e w' ⟨rfl, ⟨nd, rfl⟩⟩; refine ⟨_, rfl, ?_⟩) | ((with_reducible refine gate_dst (N := 6) rfl ?_); refine Kd.R_lit (Kd.int .i64) _ 3 ?hg (N := 6) ?hd (xs := ([0, 1, 2, 1] : List Int)) (inner := [.int .i64 0, .int .i64 1, .int .i64 2, .int .i64 1]) (ok := fun _ => True) (okp := fun _ => True) ?hr ?hp (fun _ hk => hk) trivial (Below.refl _ _) (Nat.le_refl _) (by simp) ?_; (case hd => rfl); (case hg => rfl); (case hr => first | (go_simp; done) | (go_simp; rfl)); (case hp => exact (Reps.one (show Kd.M (Kd.int .i64) _ _ _ 0 [.int .i64 0] from rfl) (Reps.one (show Kd.M (Kd.int .i64) _ _ _ 1 [.int .i64 1] from rfl) (Reps.one (show Kd.M (Kd.int .i64) _ _ _ 2 [.int .i64 2] from rfl) (Reps.one (show Kd.M (Kd.int .i64) _ _ _ 1 [.int .i64 1] from rfl) (Reps.none _ _)))))); intro v223 w7 ho8 hb hg_ hnew_; clear hg_ hnew_; (first | rw [← Ny222.out] at ho8 | (simp only [Int.reduceToNat] at ho8; rw [← Ny222.out] at ho8)); have n0_ := Aside0.mk (Kd.R_lower ho8 (below_size (by repeat (first | (with_reducible first | exact HB.out | apply below_alloc | apply pw_below_drewN | apply below_drew1) | exact HB.out)))); have n1_ := Aside0.mk (below_step (by repeat (first | (with_reducible first | exact HB.out | apply below_alloc | apply pw_below_drewN | apply below_drew1) | exact HB.out)) hb); clear HB; have HO224 := n0_; have HB := n1_; clear n0_ n1_; clear hb ho8) | ((with_reducible refine gate_callee (f := 21) rfl ?_); refine goesL_ (some 8) rfl rfl Try.func21 (by kernel_rfl) rfl #[.int .i64 a0] rfl (by (try simp only [List.map_toArray, List.map_cons, List.map_nil]); first | done | rfl | (simp only [List.length_drop, List.length_take]; rfl)) ?_; (with_reducible refine (abugidaref05_Script.calls a0 t225 _ A4.out).mono ?_); rintro e w' ⟨rfl, ⟨nd, rfl⟩⟩; refine ⟨_, rfl, ?_⟩; obtain ⟨Ao9, co9, eo9⟩ := Kd.R_slice HO224.out; subst eo9; have p226 : 0 ≤ (t225 : Int) := of_decide_eq_true (by first | (with_reducible assumption) | assumption); have q226 : t225 < (y222.length : Int) := of_decide_eq_true (by first | (with_reducible assumption) | assumption); obtain ⟨ad226, e226, hx226_0⟩ := Kd.at_int (Kd.R_reads' HO224.out).2.2 t225 p226 q226; cases e226; replace p226 := eq_true p226; replace q226 := eq_true q226))
        go_ret
        exact ⟨by first | rfl | (simp [errW_none, errW_some] <;> rfl) | (simp [*, errW_none, errW_some] <;> rfl), by repeat (first | (with_reducible first | exact HB.out | apply below_alloc | apply pw_below_drewN | apply below_drew1) | exact HB.out)⟩
      · rw [if_neg c6] at H
        exact absurd H (by simp)
    · rw [if_neg c5] at H
      exact absurd H (by simp)

/-! ### abugidaref07_strong: function 42 -/
def abugidaref07_strong.f (k : Nat) (a0 : ByteArray) (a1 : Int) : Option (Int) := if 0 ≤ a1 then (if a1 < (a0.size : Int) then ((abugidaref05_Strong.f k (wrap64 (bt a0 a1))).bind fun t227 => (some t227)) else (none)) else (none)
theorem abugidaref07_strong.mono : ∀ a0 a1 k, LeO (abugidaref07_strong.f k a0 a1) (abugidaref07_strong.f (k + 1) a0 a1) := by
  intro a0 a1 k
  unfold abugidaref07_strong.f
  repeat' first
      | (with_reducible exact abugidaref05_Strong.mono _ _)
      | (with_reducible exact LeO.refl _)
      | (with_reducible exact LeO.none _)
      | (with_reducible refine LeO.ite ?_ ?_)
      | (with_reducible refine LeO.bind ?_ (fun _ => ?_))
      | exact abugidaref05_Strong.mono _ _
      | exact LeO.none _
      | refine LeO.ite ?_ ?_
      | refine LeO.bind ?_ (fun _ => ?_)
set_option maxHeartbeats 8000000 in
set_option maxRecDepth 100000 in
theorem abugidaref07_strong.calls (k : Nat) (a0 : ByteArray) (a1 : Int) (r : Int) (w : World) (h : abugidaref07_strong.f k a0 a1 = some r) :
    Calls Try.prog 42 #[.string a0, .int .i64 a1] w fun e w' => e = .returned (.int .i64 r) ∧ Below w.heap.size w w' := by
  have HB := Aside0.mk (Below.refl w.heap.size w)
  have H : (if 0 ≤ a1 then (if a1 < (a0.size : Int) then ((abugidaref05_Strong.f k (wrap64 (bt a0 a1))).bind fun t227 => (some t227)) else (none)) else (none)) = some r := h
  clear h
  by_cases c3 : 0 ≤ a1
  · rw [if_pos c3] at H
    have c3b0 : decide (0 ≤ a1) = true := decide_eq_true c3
    clear c3
    by_cases c4 : a1 < (a0.size : Int)
    · rw [if_pos c4] at H
      have c4b0 : decide (a1 < (a0.size : Int)) = true := decide_eq_true c4
      clear c4
      replace H := Option.bind_eq_some_iff.mp H
      obtain ⟨t227, A60, H⟩ := H
      replace H : (some t227) = some r := H
      have A6 := Aside0.mk A60
      clear A60
      obtain rfl := Option.some.inj H
      have p5 : 0 ≤ (a1 : Int) := of_decide_eq_true (by first | (with_reducible assumption) | assumption)
      have q5 : a1 < (a0.size : Int) := of_decide_eq_true (by first | (with_reducible assumption) | assumption)
      have hx5 := bt_at a0 a1
      replace p5 := eq_true p5
      replace q5 := eq_true q5
      go_enter Try.func42, Try.ntmps42
      go_wp2_with (first | ((with_reducible refine gate_callee (f := 19) rfl ?_); refine goesL_ (some 9) rfl rfl Try.func19 (by kernel_rfl) rfl #[.int .i64 (wrap64 (bt a0 a1))] rfl (by (try simp only [List.map_toArray, List.map_cons, List.map_nil]); first | done | rfl | (simp only [List.length_drop, List.length_take]; rfl)) ?_; (with_reducible refine (abugidaref05_Strong.calls k (wrap64 (bt a0 a1)) t227 _ A6.out).mono ?_); rintro e w7 ⟨rfl, hb⟩; refine ⟨_, rfl, ?_⟩; have n0_ := Aside0.mk (below_step (by repeat (first | (with_reducible first | exact HB.out | apply below_alloc | apply pw_below_drewN | apply below_drew1) | exact HB.out)) hb); clear HB; have HB := n0_; clear n0_; (try clear hb); (try clear hb2); (try clear hk); (try clear hi)))
      go_ret
      exact ⟨by first | rfl | (simp [errW_none, errW_some] <;> rfl) | (simp [*, errW_none, errW_some] <;> rfl), by repeat (first | (with_reducible first | exact HB.out | apply below_alloc | apply pw_below_drewN | apply below_drew1) | exact HB.out)⟩
    · rw [if_neg c4] at H
      exact absurd H (by simp)
  · rw [if_neg c3] at H
    exact absurd H (by simp)

/-! ### abugidaref07_Base: function 29 -/
def abugidaref07_Base.l0 : Nat → ByteArray → Int → Option (Int)
  | 0, _, _ => none
  | k + 1, x0, x3 => if x3 < (x0.size : Int) then ((abugidaref07_strong.f k x0 x3).bind fun t228 => (if t228 = 1 then ((abugidaref07_strong.f k x0 x3).bind fun t229 => (some t229)) else ((abugidaref07_strong.f k x0 x3).bind fun t230 => (if t230 = 2 then ((abugidaref07_strong.f k x0 x3).bind fun t231 => (some t231)) else (abugidaref07_Base.l0 k x0 (wrap64 (x3 + 1))))))) else (some 1)
def abugidaref07_Base.f (k : Nat) (a0 : ByteArray) : Option (Int) := abugidaref07_Base.l0 k a0 0
theorem abugidaref07_Base.mono_l : ∀ k, (∀ y0 y1, LeO (abugidaref07_Base.l0 k y0 y1) (abugidaref07_Base.l0 (k + 1) y0 y1))
  | 0 => fun _ _ r h => by simp [abugidaref07_Base.l0] at h
  | k + 1 => by
    have ih0 := abugidaref07_Base.mono_l k
    · intro y0 y1
      unfold abugidaref07_Base.l0
      repeat' first
      | (with_reducible exact ih0 _ _)
      | (with_reducible exact abugidaref07_strong.mono _ _ _)
      | (with_reducible exact LeO.refl _)
      | (with_reducible exact LeO.none _)
      | (with_reducible refine LeO.ite ?_ ?_)
      | (with_reducible refine LeO.bind ?_ (fun _ => ?_))
      | exact ih0 _ _
      | exact abugidaref07_strong.mono _ _ _
      | exact LeO.none _
      | refine LeO.ite ?_ ?_
      | refine LeO.bind ?_ (fun _ => ?_)
theorem abugidaref07_Base.mono : ∀ a0 k, LeO (abugidaref07_Base.f k a0) (abugidaref07_Base.f (k + 1) a0) := by
  intro a0 k
  have ih0 := abugidaref07_Base.mono_l k
  unfold abugidaref07_Base.f
  repeat' first
      | (with_reducible exact ih0 _ _)
      | (with_reducible exact abugidaref07_strong.mono _ _ _)
      | (with_reducible exact LeO.refl _)
      | (with_reducible exact LeO.none _)
      | (with_reducible refine LeO.ite ?_ ?_)
      | (with_reducible refine LeO.bind ?_ (fun _ => ?_))
      | exact ih0 _ _
      | exact abugidaref07_strong.mono _ _ _
      | exact LeO.none _
      | refine LeO.ite ?_ ?_
      | refine LeO.bind ?_ (fun _ => ?_)
set_option maxHeartbeats 8000000 in
set_option maxRecDepth 100000 in
theorem abugidaref07_Base.calls (k : Nat) (a0 : ByteArray) (r : Int) (w : World) (h : abugidaref07_Base.f k a0 = some r) :
    Calls Try.prog 29 #[.string a0] w fun e w' => e = .returned (.int .i64 r) ∧ Below w.heap.size w w' := by
  have HB := Aside0.mk (Below.refl w.heap.size w)
  have H : (abugidaref07_Base.l0 k a0 0) = some r := h
  clear h
  have H' := Aside0.mk H
  clear H
  go_enter Try.func29, Try.ntmps29
  go_wp2
  go_loopg [3] k (fun kq v3 w' => ∃ (x3_1 : Int), v3 = .int .i64 x3_1 ∧ Aside0 (abugidaref07_Base.l0 kq a0 x3_1 = some r) ∧ Aside0 (kq ≤ k) ∧ Aside0 (Below w.heap.size w w'))
  case atStart => exact ⟨(0), (by first | rfl | (simp; done) | (simp [*]; done)), H', ⟨Nat.le_refl _⟩, ⟨by repeat (first | (with_reducible first | exact HB.out | apply below_alloc | apply pw_below_drewN | apply below_drew1) | exact HB.out)⟩⟩
  case round =>
    clear H'
    obtain ⟨x3_1, rfl, HA, HK1, HB⟩ := hrel
    cases gk with
    | zero => exact absurd HA.out (by simp [abugidaref07_Base.l0])
    | succ k1 =>
      have H := HA.out
      clear HA
      simp only [abugidaref07_Base.l0] at H
      by_cases c2 : x3_1 < (a0.size : Int)
      · rw [if_pos c2] at H
        have c2b0 : decide (x3_1 < (a0.size : Int)) = true := decide_eq_true c2
        clear c2
        replace H := Option.bind_eq_some_iff.mp H
        obtain ⟨t228, A30, H⟩ := H
        replace H : (if t228 = 1 then ((abugidaref07_strong.f k1 a0 x3_1).bind fun t229 => (some t229)) else ((abugidaref07_strong.f k1 a0 x3_1).bind fun t230 => (if t230 = 2 then ((abugidaref07_strong.f k1 a0 x3_1).bind fun t231 => (some t231)) else (abugidaref07_Base.l0 k1 a0 (wrap64 (x3_1 + 1)))))) = some r := H
        have A3 := Aside0.mk A30
        clear A30
        by_cases c4 : t228 = 1
        · rw [if_pos c4] at H
          have c4b0 : (t228 == 1) = true := beq_iff_eq.mpr c4
          have c4b1 : (t228 != 1) = false := bne_eq_false_iff_eq.mpr c4
          clear c4
          replace H := Option.bind_eq_some_iff.mp H
          obtain ⟨t229, A50, H⟩ := H
          replace H : (some t229) = some r := H
          have A5 := Aside0.mk A50
          clear A50
          have EA5 : t228 = t229 := Option.some.inj (A3.out.symm.trans A5.out)
          obtain rfl := EA5
          obtain rfl := Option.some.inj H
          go_wp2_with (first | ((with_reducible refine gate_callee (f := 42) rfl ?_); refine goesL_ (some 12) rfl rfl Try.func42 (by kernel_rfl) rfl #[.string a0, .int .i64 x3_1] rfl (by (try simp only [List.map_toArray, List.map_cons, List.map_nil]); first | done | rfl | (simp only [List.length_drop, List.length_take]; rfl)) ?_; (with_reducible refine (abugidaref07_strong.calls k1 a0 x3_1 t228 _ A3.out).mono ?_); rintro e w6 ⟨rfl, hb⟩; refine ⟨_, rfl, ?_⟩; have n0_ := Aside0.mk (below_step (by repeat (first | (with_reducible first | exact HB.out | apply below_alloc | apply pw_below_drewN | apply below_drew1) | exact HB.out)) hb); clear HB; have HB := n0_; clear n0_; (try clear hb); (try clear hb2); (try clear hk); (try clear hi)) | ((with_reducible refine gate_callee (f := 42) rfl ?_); refine goesL_ (some 22) rfl rfl Try.func42 (by kernel_rfl) rfl #[.string a0, .int .i64 x3_1] rfl (by (try simp only [List.map_toArray, List.map_cons, List.map_nil]); first | done | rfl | (simp only [List.length_drop, List.length_take]; rfl)) ?_; (with_reducible refine (abugidaref07_strong.calls k1 a0 x3_1 t228 _ A5.out).mono ?_); rintro e w7 ⟨rfl, hb⟩; refine ⟨_, rfl, ?_⟩; have n0_ := Aside0.mk (below_step (by repeat (first | (with_reducible first | exact HB.out | apply below_alloc | apply pw_below_drewN | apply below_drew1) | exact HB.out)) hb); clear HB; have HB := n0_; clear n0_; (try clear hb); (try clear hb2); (try clear hk); (try clear hi)))
          go_ret
          exact ⟨by first | rfl | (simp [errW_none, errW_some] <;> rfl) | (simp [*, errW_none, errW_some] <;> rfl), by repeat (first | (with_reducible first | exact HB.out | apply below_alloc | apply pw_below_drewN | apply below_drew1) | exact HB.out)⟩
        · rw [if_neg c4] at H
          have c4b0 : (t228 == 1) = false := beq_eq_false_iff_ne.mpr c4
          have c4b1 : (t228 != 1) = true := bne_iff_ne.mpr c4
          replace H := Option.bind_eq_some_iff.mp H
          obtain ⟨t230, A80, H⟩ := H
          replace H : (if t230 = 2 then ((abugidaref07_strong.f k1 a0 x3_1).bind fun t231 => (some t231)) else (abugidaref07_Base.l0 k1 a0 (wrap64 (x3_1 + 1)))) = some r := H
          have A8 := Aside0.mk A80
          clear A80
          have EA8 : t228 = t230 := Option.some.inj (A3.out.symm.trans A8.out)
          obtain rfl := EA8
          by_cases c9 : t228 = 2
          · rw [if_pos c9] at H
            have c9b0 : (t228 == 2) = true := beq_iff_eq.mpr c9
            have c9b1 : (t228 != 2) = false := bne_eq_false_iff_eq.mpr c9
            clear c9
            replace H := Option.bind_eq_some_iff.mp H
            obtain ⟨t231, A100, H⟩ := H
            replace H : (some t231) = some r := H
            have A10 := Aside0.mk A100
            clear A100
            have EA10 : t228 = t231 := Option.some.inj (A8.out.symm.trans A10.out)
            obtain rfl := EA10
            obtain rfl := Option.some.inj H
            go_wp2_with (first | ((with_reducible refine gate_callee (f := 42) rfl ?_); refine goesL_ (some 12) rfl rfl Try.func42 (by kernel_rfl) rfl #[.string a0, .int .i64 x3_1] rfl (by (try simp only [List.map_toArray, List.map_cons, List.map_nil]); first | done | rfl | (simp only [List.length_drop, List.length_take]; rfl)) ?_; (with_reducible refine (abugidaref07_strong.calls k1 a0 x3_1 t228 _ A3.out).mono ?_); rintro e w11 ⟨rfl, hb⟩; refine ⟨_, rfl, ?_⟩; have n0_ := Aside0.mk (below_step (by repeat (first | (with_reducible first | exact HB.out | apply below_alloc | apply pw_below_drewN | apply below_drew1) | exact HB.out)) hb); clear HB; have HB := n0_; clear n0_; (try clear hb); (try clear hb2); (try clear hk); (try clear hi)) | (go_at_call 42; (with_reducible refine (abugidaref07_strong.calls k1 a0 x3_1 t228 _ A8.out).mono ?_); rintro e w12 ⟨rfl, hb⟩; have n0_ := Aside0.mk (below_step (by repeat (first | (with_reducible first | exact HB.out | apply below_alloc | apply pw_below_drewN | apply below_drew1) | exact HB.out)) hb); clear HB; have HB := n0_; clear n0_; (try clear hb); (try clear hb2); (try clear hk); (try clear hi)) | ((with_reducible refine gate_callee (f := 42) rfl ?_); refine goesL_ (some 22) rfl rfl Try.func42 (by kernel_rfl) rfl #[.string a0, .int .i64 x3_1] rfl (by (try simp only [List.map_toArray, List.map_cons, List.map_nil]); first | done | rfl | (simp only [List.length_drop, List.length_take]; rfl)) ?_; (with_reducible refine (abugidaref07_strong.calls k1 a0 x3_1 t228 _ A10.out).mono ?_); rintro e w13 ⟨rfl, hb⟩; refine ⟨_, rfl, ?_⟩; have n0_ := Aside0.mk (below_step (by repeat (first | (with_reducible first | exact HB.out | apply below_alloc | apply pw_below_drewN | apply below_drew1) | exact HB.out)) hb); clear HB; have HB := n0_; clear n0_; (try clear hb); (try clear hb2); (try clear hk); (try clear hi)))
            go_ret
            exact ⟨by first | rfl | (simp [errW_none, errW_some] <;> rfl) | (simp [*, errW_none, errW_some] <;> rfl), by repeat (first | (with_reducible first | exact HB.out | apply below_alloc | apply pw_below_drewN | apply below_drew1) | exact HB.out)⟩
          · rw [if_neg c9] at H
            have c9b0 : (t228 == 2) = false := beq_eq_false_iff_ne.mpr c9
            have c9b1 : (t228 != 2) = true := bne_iff_ne.mpr c9
            have H' := Aside0.mk H
            clear H
            go_wp2_with (first | ((with_reducible refine gate_callee (f := 42) rfl ?_); refine goesL_ (some 12) rfl rfl Try.func42 (by kernel_rfl) rfl #[.string a0, .int .i64 x3_1] rfl (by (try simp only [List.map_toArray, List.map_cons, List.map_nil]); first | done | rfl | (simp only [List.length_drop, List.length_take]; rfl)) ?_; (with_reducible refine (abugidaref07_strong.calls k1 a0 x3_1 t228 _ A3.out).mono ?_); rintro e w14 ⟨rfl, hb⟩; refine ⟨_, rfl, ?_⟩; have n0_ := Aside0.mk (below_step (by repeat (first | (with_reducible first | exact HB.out | apply below_alloc | apply pw_below_drewN | apply below_drew1) | exact HB.out)) hb); clear HB; have HB := n0_; clear n0_; (try clear hb); (try clear hb2); (try clear hk); (try clear hi)) | (go_at_call 42; (with_reducible refine (abugidaref07_strong.calls k1 a0 x3_1 t228 _ A8.out).mono ?_); rintro e w15 ⟨rfl, hb⟩; have n0_ := Aside0.mk (below_step (by repeat (first | (with_reducible first | exact HB.out | apply below_alloc | apply pw_below_drewN | apply below_drew1) | exact HB.out)) hb); clear HB; have HB := n0_; clear n0_; (try clear hb); (try clear hb2); (try clear hk); (try clear hi)))
            go_roundg k1
            case measure => have := HK1.out; omega
            case rel => exact ⟨(wrap64 (x3_1 + 1)), (by first | rfl | (simp; done) | (simp [*]; done)), H', ⟨by have := HK1.out; omega⟩, ⟨by repeat (first | (with_reducible first | exact HB.out | apply below_alloc | apply pw_below_drewN | apply below_drew1) | exact HB.out)⟩⟩
      · rw [if_neg c2] at H
        have c2b0 : decide (x3_1 < (a0.size : Int)) = false := decide_eq_false c2
        clear c2
        obtain rfl := Option.some.inj H
        go_wp2
        go_ret
        exact ⟨by first | rfl | (simp [errW_none, errW_some] <;> rfl) | (simp [*, errW_none, errW_some] <;> rfl), by repeat (first | (with_reducible first | exact HB.out | apply below_alloc | apply pw_below_drewN | apply below_drew1) | exact HB.out)⟩

/-! ### abugidaref07_Right: function 12 -/
def abugidaref07_Right.f (k : Nat) (a0 : ByteArray) : Option (Bool) := (abugidaref07_Base.f k a0).bind fun t232 => (some (t232 == 2))
theorem abugidaref07_Right.mono : ∀ a0 k, LeO (abugidaref07_Right.f k a0) (abugidaref07_Right.f (k + 1) a0) := by
  intro a0 k
  unfold abugidaref07_Right.f
  repeat' first
      | (with_reducible exact abugidaref07_Base.mono _ _)
      | (with_reducible exact LeO.refl _)
      | (with_reducible exact LeO.none _)
      | (with_reducible refine LeO.ite ?_ ?_)
      | (with_reducible refine LeO.bind ?_ (fun _ => ?_))
      | exact abugidaref07_Base.mono _ _
      | exact LeO.none _
      | refine LeO.ite ?_ ?_
      | refine LeO.bind ?_ (fun _ => ?_)
set_option maxHeartbeats 8000000 in
set_option maxRecDepth 100000 in
theorem abugidaref07_Right.calls (k : Nat) (a0 : ByteArray) (r : Bool) (w : World) (h : abugidaref07_Right.f k a0 = some r) :
    Calls Try.prog 12 #[.string a0] w fun e w' => e = .returned (.bool r) ∧ Below w.heap.size w w' := by
  have HB := Aside0.mk (Below.refl w.heap.size w)
  have H : ((abugidaref07_Base.f k a0).bind fun t232 => (some (t232 == 2))) = some r := h
  clear h
  replace H := Option.bind_eq_some_iff.mp H
  obtain ⟨t232, A20, H⟩ := H
  replace H : (some (t232 == 2)) = some r := H
  have A2 := Aside0.mk A20
  clear A20
  obtain rfl := Option.some.inj H
  go_enter Try.func12, Try.ntmps12
  go_wp2_with (first | ((with_reducible refine gate_callee (f := 29) rfl ?_); refine goesL_ (some 4) rfl rfl Try.func29 (by kernel_rfl) rfl #[.string a0] rfl (by (try simp only [List.map_toArray, List.map_cons, List.map_nil]); first | done | rfl | (simp only [List.length_drop, List.length_take]; rfl)) ?_; (with_reducible refine (abugidaref07_Base.calls k a0 t232 _ A2.out).mono ?_); rintro e w3 ⟨rfl, hb⟩; refine ⟨_, rfl, ?_⟩; have n0_ := Aside0.mk (below_step (by repeat (first | (with_reducible first | exact HB.out | apply below_alloc | apply pw_below_drewN | apply below_drew1) | exact HB.out)) hb); clear HB; have HB := n0_; clear n0_; (try clear hb); (try clear hb2); (try clear hk); (try clear hi)))
  go_ret
  exact ⟨by first | rfl | (simp [errW_none, errW_some] <;> rfl) | (simp [*, errW_none, errW_some] <;> rfl), by repeat (first | (with_reducible first | exact HB.out | apply below_alloc | apply pw_below_drewN | apply below_drew1) | exact HB.out)⟩

/-! ### abugidaref05_Extends: function 55 -/
def abugidaref05_Extends.f (k : Nat) (a0 : Int) : Option (Bool) := (abugidaref05_Class.f k a0).bind fun t233 => (if t233 = 6 then (some true) else (if t233 = 10 then (some true) else (if t233 = 11 then (some true) else (if t233 = 12 then (some true) else (if t233 = 13 then (some true) else (some (t233 == 14)))))))
theorem abugidaref05_Extends.mono : ∀ a0 k, LeO (abugidaref05_Extends.f k a0) (abugidaref05_Extends.f (k + 1) a0) := by
  intro a0 k
  unfold abugidaref05_Extends.f
  repeat' first
      | (with_reducible exact abugidaref05_Class.mono _ _)
      | (with_reducible exact LeO.refl _)
      | (with_reducible exact LeO.none _)
      | (with_reducible refine LeO.ite ?_ ?_)
      | (with_reducible refine LeO.bind ?_ (fun _ => ?_))
      | exact abugidaref05_Class.mono _ _
      | exact LeO.none _
      | refine LeO.ite ?_ ?_
      | refine LeO.bind ?_ (fun _ => ?_)
set_option maxHeartbeats 8000000 in
set_option maxRecDepth 100000 in
theorem abugidaref05_Extends.calls (k : Nat) (a0 : Int) (r : Bool) (w : World) (h : abugidaref05_Extends.f k a0 = some r) :
    Calls Try.prog 55 #[.int .i64 a0] w fun e w' => e = .returned (.bool r) ∧ Drawn0 w w' := by
  have H : ((abugidaref05_Class.f k a0).bind fun t233 => (if t233 = 6 then (some true) else (if t233 = 10 then (some true) else (if t233 = 11 then (some true) else (if t233 = 12 then (some true) else (if t233 = 13 then (some true) else (some (t233 == 14)))))))) = some r := h
  clear h
  replace H := Option.bind_eq_some_iff.mp H
  obtain ⟨t233, A20, H⟩ := H
  replace H : (if t233 = 6 then (some true) else (if t233 = 10 then (some true) else (if t233 = 11 then (some true) else (if t233 = 12 then (some true) else (if t233 = 13 then (some true) else (some (t233 == 14))))))) = some r := H
  have A2 := Aside0.mk A20
  clear A20
  by_cases c3 : t233 = 6
  · rw [if_pos c3] at H
    have c3b0 : (t233 == 6) = true := beq_iff_eq.mpr c3
    have c3b1 : (t233 != 6) = false := bne_eq_false_iff_eq.mpr c3
    clear c3
    obtain rfl := Option.some.inj H
    go_enter Try.func55, Try.ntmps55
    go_wp2_with (first | ((with_reducible refine gate_callee (f := 22) rfl ?_); refine goesL_ (some 5) rfl rfl Try.func22 (by kernel_rfl) rfl #[.int .i64 a0] rfl (by (try simp only [List.map_toArray, List.map_cons, List.map_nil]); first | done | rfl | (simp only [List.length_drop, List.length_take]; rfl)) ?_; (with_reducible refine (abugidaref05_Class.calls k a0 t233 _ A2.out).mono ?_); rintro e w' ⟨rfl, ⟨nd, rfl⟩⟩; refine ⟨_, rfl, ?_⟩))
    go_ret
    exact ⟨by first | rfl | (simp; done) | (simp [*]; done), by repeat (first | exact Drawn0.refl _ | apply Drawn0.step)⟩
  · rw [if_neg c3] at H
    have c3b0 : (t233 == 6) = false := beq_eq_false_iff_ne.mpr c3
    have c3b1 : (t233 != 6) = true := bne_iff_ne.mpr c3
    by_cases c4 : t233 = 10
    · rw [if_pos c4] at H
      have c4b0 : (t233 == 10) = true := beq_iff_eq.mpr c4
      have c4b1 : (t233 != 10) = false := bne_eq_false_iff_eq.mpr c4
      clear c4
      obtain rfl := Option.some.inj H
      go_enter Try.func55, Try.ntmps55
      go_wp2_with (first | ((with_reducible refine gate_callee (f := 22) rfl ?_); refine goesL_ (some 5) rfl rfl Try.func22 (by kernel_rfl) rfl #[.int .i64 a0] rfl (by (try simp only [List.map_toArray, List.map_cons, List.map_nil]); first | done | rfl | (simp only [List.length_drop, List.length_take]; rfl)) ?_; (with_reducible refine (abugidaref05_Class.calls k a0 t233 _ A2.out).mono ?_); rintro e w' ⟨rfl, ⟨nd, rfl⟩⟩; refine ⟨_, rfl, ?_⟩))
      go_ret
      exact ⟨by first | rfl | (simp; done) | (simp [*]; done), by repeat (first | exact Drawn0.refl _ | apply Drawn0.step)⟩
    · rw [if_neg c4] at H
      have c4b0 : (t233 == 10) = false := beq_eq_false_iff_ne.mpr c4
      have c4b1 : (t233 != 10) = true := bne_iff_ne.mpr c4
      by_cases c5 : t233 = 11
      · rw [if_pos c5] at H
        have c5b0 : (t233 == 11) = true := beq_iff_eq.mpr c5
        have c5b1 : (t233 != 11) = false := bne_eq_false_iff_eq.mpr c5
        clear c5
        obtain rfl := Option.some.inj H
        go_enter Try.func55, Try.ntmps55
        go_wp2_with (first | ((with_reducible refine gate_callee (f := 22) rfl ?_); refine goesL_ (some 5) rfl rfl Try.func22 (by kernel_rfl) rfl #[.int .i64 a0] rfl (by (try simp only [List.map_toArray, List.map_cons, List.map_nil]); first | done | rfl | (simp only [List.length_drop, List.length_take]; rfl)) ?_; (with_reducible refine (abugidaref05_Class.calls k a0 t233 _ A2.out).mono ?_); rintro e w' ⟨rfl, ⟨nd, rfl⟩⟩; refine ⟨_, rfl, ?_⟩))
        go_ret
        exact ⟨by first | rfl | (simp; done) | (simp [*]; done), by repeat (first | exact Drawn0.refl _ | apply Drawn0.step)⟩
      · rw [if_neg c5] at H
        have c5b0 : (t233 == 11) = false := beq_eq_false_iff_ne.mpr c5
        have c5b1 : (t233 != 11) = true := bne_iff_ne.mpr c5
        by_cases c6 : t233 = 12
        · rw [if_pos c6] at H
          have c6b0 : (t233 == 12) = true := beq_iff_eq.mpr c6
          have c6b1 : (t233 != 12) = false := bne_eq_false_iff_eq.mpr c6
          clear c6
          obtain rfl := Option.some.inj H
          go_enter Try.func55, Try.ntmps55
          go_wp2_with (first | ((with_reducible refine gate_callee (f := 22) rfl ?_); refine goesL_ (some 5) rfl rfl Try.func22 (by kernel_rfl) rfl #[.int .i64 a0] rfl (by (try simp only [List.map_toArray, List.map_cons, List.map_nil]); first | done | rfl | (simp only [List.length_drop, List.length_take]; rfl)) ?_; (with_reducible refine (abugidaref05_Class.calls k a0 t233 _ A2.out).mono ?_); rintro e w' ⟨rfl, ⟨nd, rfl⟩⟩; refine ⟨_, rfl, ?_⟩))
          go_ret
          exact ⟨by first | rfl | (simp; done) | (simp [*]; done), by repeat (first | exact Drawn0.refl _ | apply Drawn0.step)⟩
        · rw [if_neg c6] at H
          have c6b0 : (t233 == 12) = false := beq_eq_false_iff_ne.mpr c6
          have c6b1 : (t233 != 12) = true := bne_iff_ne.mpr c6
          by_cases c7 : t233 = 13
          · rw [if_pos c7] at H
            have c7b0 : (t233 == 13) = true := beq_iff_eq.mpr c7
            have c7b1 : (t233 != 13) = false := bne_eq_false_iff_eq.mpr c7
            clear c7
            obtain rfl := Option.some.inj H
            go_enter Try.func55, Try.ntmps55
            go_wp2_with (first | ((with_reducible refine gate_callee (f := 22) rfl ?_); refine goesL_ (some 5) rfl rfl Try.func22 (by kernel_rfl) rfl #[.int .i64 a0] rfl (by (try simp only [List.map_toArray, List.map_cons, List.map_nil]); first | done | rfl | (simp only [List.length_drop, List.length_take]; rfl)) ?_; (with_reducible refine (abugidaref05_Class.calls k a0 t233 _ A2.out).mono ?_); rintro e w' ⟨rfl, ⟨nd, rfl⟩⟩; refine ⟨_, rfl, ?_⟩))
            go_ret
            exact ⟨by first | rfl | (simp; done) | (simp [*]; done), by repeat (first | exact Drawn0.refl _ | apply Drawn0.step)⟩
          · rw [if_neg c7] at H
            have c7b0 : (t233 == 13) = false := beq_eq_false_iff_ne.mpr c7
            have c7b1 : (t233 != 13) = true := bne_iff_ne.mpr c7
            obtain rfl := Option.some.inj H
            go_enter Try.func55, Try.ntmps55
            go_wp2_with (first | ((with_reducible refine gate_callee (f := 22) rfl ?_); refine goesL_ (some 5) rfl rfl Try.func22 (by kernel_rfl) rfl #[.int .i64 a0] rfl (by (try simp only [List.map_toArray, List.map_cons, List.map_nil]); first | done | rfl | (simp only [List.length_drop, List.length_take]; rfl)) ?_; (with_reducible refine (abugidaref05_Class.calls k a0 t233 _ A2.out).mono ?_); rintro e w' ⟨rfl, ⟨nd, rfl⟩⟩; refine ⟨_, rfl, ?_⟩))
            go_ret
            exact ⟨by first | rfl | (simp; done) | (simp [*]; done), by repeat (first | exact Drawn0.refl _ | apply Drawn0.step)⟩

/-! ### abugidaref06_class: function 59 -/
def abugidaref06_class.f (k : Nat) (a0 : ByteArray) (a1 : Int) : Option (Int) := if 0 ≤ a1 then (if a1 < (a0.size : Int) then ((abugidaref05_Class.f k (wrap64 (bt a0 a1))).bind fun t234 => (some t234)) else (none)) else (none)
theorem abugidaref06_class.mono : ∀ a0 a1 k, LeO (abugidaref06_class.f k a0 a1) (abugidaref06_class.f (k + 1) a0 a1) := by
  intro a0 a1 k
  unfold abugidaref06_class.f
  repeat' first
      | (with_reducible exact abugidaref05_Class.mono _ _)
      | (with_reducible exact LeO.refl _)
      | (with_reducible exact LeO.none _)
      | (with_reducible refine LeO.ite ?_ ?_)
      | (with_reducible refine LeO.bind ?_ (fun _ => ?_))
      | exact abugidaref05_Class.mono _ _
      | exact LeO.none _
      | refine LeO.ite ?_ ?_
      | refine LeO.bind ?_ (fun _ => ?_)
set_option maxHeartbeats 8000000 in
set_option maxRecDepth 100000 in
theorem abugidaref06_class.calls (k : Nat) (a0 : ByteArray) (a1 : Int) (r : Int) (w : World) (h : abugidaref06_class.f k a0 a1 = some r) :
    Calls Try.prog 59 #[.string a0, .int .i64 a1] w fun e w' => e = .returned (.int .i64 r) ∧ Drawn0 w w' := by
  have H : (if 0 ≤ a1 then (if a1 < (a0.size : Int) then ((abugidaref05_Class.f k (wrap64 (bt a0 a1))).bind fun t234 => (some t234)) else (none)) else (none)) = some r := h
  clear h
  by_cases c3 : 0 ≤ a1
  · rw [if_pos c3] at H
    have c3b0 : decide (0 ≤ a1) = true := decide_eq_true c3
    clear c3
    by_cases c4 : a1 < (a0.size : Int)
    · rw [if_pos c4] at H
      have c4b0 : decide (a1 < (a0.size : Int)) = true := decide_eq_true c4
      clear c4
      replace H := Option.bind_eq_some_iff.mp H
      obtain ⟨t234, A60, H⟩ := H
      replace H : (some t234) = some r := H
      have A6 := Aside0.mk A60
      clear A60
      obtain rfl := Option.some.inj H
      have p5 : 0 ≤ (a1 : Int) := of_decide_eq_true (by first | (with_reducible assumption) | assumption)
      have q5 : a1 < (a0.size : Int) := of_decide_eq_true (by first | (with_reducible assumption) | assumption)
      have hx5 := bt_at a0 a1
      replace p5 := eq_true p5
      replace q5 := eq_true q5
      go_enter Try.func59, Try.ntmps59
      go_wp2_with (first | ((with_reducible refine gate_callee (f := 22) rfl ?_); refine goesL_ (some 9) rfl rfl Try.func22 (by kernel_rfl) rfl #[.int .i64 (wrap64 (bt a0 a1))] rfl (by (try simp only [List.map_toArray, List.map_cons, List.map_nil]); first | done | rfl | (simp only [List.length_drop, List.length_take]; rfl)) ?_; (with_reducible refine (abugidaref05_Class.calls k (wrap64 (bt a0 a1)) t234 _ A6.out).mono ?_); rintro e w' ⟨rfl, ⟨nd, rfl⟩⟩; refine ⟨_, rfl, ?_⟩))
      go_ret
      exact ⟨by first | rfl | (simp; done) | (simp [*]; done), by repeat (first | exact Drawn0.refl _ | apply Drawn0.step)⟩
    · rw [if_neg c4] at H
      exact absurd H (by simp)
  · rw [if_neg c3] at H
    exact absurd H (by simp)

end Go.Proofs.Ytacnckneiklgpaa.Q

-- Written by wip/tools/myprint.py, a program of this session that drives the kit's print.py; not a text of print.sh.
import Derived.Test.YtgpdieogkcnfeaaQx0
import Derived.Test.YtgpdieogkcnfeaaQx9
namespace Go.Proofs.Ytgpdieogkcnfeaa.Q
open Go.RowKit Go.Proofs.YtgpdieogkcnfeaaW.PrintWords Go.Proofs.YtgpdieogkcnfeaaW.PrintLast Go.Proofs.YtgpdieogkcnfeaaW.PrintMore
attribute [local go_sem] max2_int min2_int max_two min_two max_three min_three max_four min_four   -- for this text's walks alone
set_option linter.unusedVariables false
set_option linter.unusedSimpArgs false

/-! ### abugidaref05_Class: function 34 -/
def abugidaref05_Class.j0 : Nat → Int → Bool → Option (Int)
  | 0, _, _ => none
  | k + 1, x0, x18 => if x18 = true then (some 6) else ((abugidaref05_within.f x0 104 127).bind fun t272 => (if t272 = true then (some 7) else ((abugidaref05_within.f x0 128 143).bind fun t273 => (if t273 = true then (some 8) else ((abugidaref05_within.f x0 152 183).bind fun t274 => (if t274 = true then (some 9) else (if x0 = 184 then (some 10) else ((abugidaref05_within.f x0 185 191).bind fun t275 => (if t275 = true then (some 11) else ((abugidaref05_within.f x0 192 199).bind fun t276 => (if t276 = true then (some 12) else (if x0 = 240 then (some 13) else (if x0 = 241 then (some 14) else (some 0))))))))))))))
def abugidaref05_Class.f (k : Nat) (a0 : Int) : Option (Int) := if a0 = 10 then (some 1) else (if a0 = 32 then (some 2) else ((abugidaref05_within.f a0 33 47).bind fun t266 => (if t266 = true then (some 4) else ((abugidaref05_within.f a0 48 57).bind fun t267 => (if t267 = true then (some 3) else ((abugidaref05_within.f a0 64 95).bind fun t268 => (if t268 = true then (some 5) else ((abugidaref05_within.f a0 96 103).bind fun t269 => (if t269 = true then (abugidaref05_Class.j0 k a0 true) else ((abugidaref05_within.f a0 144 151).bind fun t270 => (if t270 = true then (abugidaref05_Class.j0 k a0 true) else ((abugidaref05_within.f a0 200 207).bind fun t271 => (abugidaref05_Class.j0 k a0 t271)))))))))))))
theorem abugidaref05_Class.mono_l : ∀ k, (∀ y0 y1, LeO (abugidaref05_Class.j0 k y0 y1) (abugidaref05_Class.j0 (k + 1) y0 y1))
  | 0 => fun _ _ r h => by simp [abugidaref05_Class.j0] at h
  | k + 1 => by
    have ih0 := abugidaref05_Class.mono_l k
    · intro y0 y1
      unfold abugidaref05_Class.j0
      repeat' first
      | (with_reducible exact ih0 _ _)
      | (with_reducible exact LeO.refl _)
      | (with_reducible exact LeO.none _)
      | (with_reducible refine LeO.ite ?_ ?_)
      | (with_reducible refine LeO.bind ?_ (fun _ => ?_))
      | exact ih0 _ _
      | exact LeO.none _
      | refine LeO.ite ?_ ?_
      | refine LeO.bind ?_ (fun _ => ?_)
theorem abugidaref05_Class.mono : ∀ a0 k, LeO (abugidaref05_Class.f k a0) (abugidaref05_Class.f (k + 1) a0) := by
  intro a0 k
  have ih0 := abugidaref05_Class.mono_l k
  unfold abugidaref05_Class.f
  repeat' first
      | (with_reducible exact ih0 _ _)
      | (with_reducible exact LeO.refl _)
      | (with_reducible exact LeO.none _)
      | (with_reducible refine LeO.ite ?_ ?_)
      | (with_reducible refine LeO.bind ?_ (fun _ => ?_))
      | exact ih0 _ _
      | exact LeO.none _
      | refine LeO.ite ?_ ?_
      | refine LeO.bind ?_ (fun _ => ?_)
set_option maxHeartbeats 8000000 in
set_option maxRecDepth 100000 in
theorem abugidaref05_Class.calls (k : Nat) (a0 : Int) (r : Int) (w : World) (h : abugidaref05_Class.f k a0 = some r) :
    Calls Try.prog 34 #[.int .i64 a0] w fun e w' => e = .returned (.int .i64 r) ∧ Drawn0 w w' := by
  have H : (if a0 = 10 then (some 1) else (if a0 = 32 then (some 2) else ((abugidaref05_within.f a0 33 47).bind fun t266 => (if t266 = true then (some 4) else ((abugidaref05_within.f a0 48 57).bind fun t267 => (if t267 = true then (some 3) else ((abugidaref05_within.f a0 64 95).bind fun t268 => (if t268 = true then (some 5) else ((abugidaref05_within.f a0 96 103).bind fun t269 => (if t269 = true then (abugidaref05_Class.j0 k a0 true) else ((abugidaref05_within.f a0 144 151).bind fun t270 => (if t270 = true then (abugidaref05_Class.j0 k a0 true) else ((abugidaref05_within.f a0 200 207).bind fun t271 => (abugidaref05_Class.j0 k a0 t271)))))))))))))) = some r := h
  clear h
  by_cases c2 : a0 = 10
  · rw [if_pos c2] at H
    have c2b0 : (a0 == 10) = true := beq_iff_eq.mpr c2
    have c2b1 : (a0 != 10) = false := bne_eq_false_iff_eq.mpr c2
    clear c2
    obtain rfl := Option.some.inj H
    go_enter Try.func34, Try.ntmps34
    go_wp2
    go_ret
    exact ⟨by first | rfl | (simp; done) | (simp [*]; done), by repeat (first | exact Drawn0.refl _ | apply Drawn0.step)⟩
  · rw [if_neg c2] at H
    have c2b0 : (a0 == 10) = false := beq_eq_false_iff_ne.mpr c2
    have c2b1 : (a0 != 10) = true := bne_iff_ne.mpr c2
    by_cases c3 : a0 = 32
    · rw [if_pos c3] at H
      have c3b0 : (a0 == 32) = true := beq_iff_eq.mpr c3
      have c3b1 : (a0 != 32) = false := bne_eq_false_iff_eq.mpr c3
      clear c3
      obtain rfl := Option.some.inj H
      go_enter Try.func34, Try.ntmps34
      go_wp2
      go_ret
      exact ⟨by first | rfl | (simp; done) | (simp [*]; done), by repeat (first | exact Drawn0.refl _ | apply Drawn0.step)⟩
    · rw [if_neg c3] at H
      have c3b0 : (a0 == 32) = false := beq_eq_false_iff_ne.mpr c3
      have c3b1 : (a0 != 32) = true := bne_iff_ne.mpr c3
      replace H := Option.bind_eq_some_iff.mp H
      obtain ⟨t266, A40, H⟩ := H
      replace H : (if t266 = true then (some 4) else ((abugidaref05_within.f a0 48 57).bind fun t267 => (if t267 = true then (some 3) else ((abugidaref05_within.f a0 64 95).bind fun t268 => (if t268 = true then (some 5) else ((abugidaref05_within.f a0 96 103).bind fun t269 => (if t269 = true then (abugidaref05_Class.j0 k a0 true) else ((abugidaref05_within.f a0 144 151).bind fun t270 => (if t270 = true then (abugidaref05_Class.j0 k a0 true) else ((abugidaref05_within.f a0 200 207).bind fun t271 => (abugidaref05_Class.j0 k a0 t271))))))))))) = some r := H
      have A4 := Aside0.mk A40
      clear A40
      by_cases c5 : t266 = true
      · subst c5
        have H1 : (some 4) = some r := by rw [if_pos rfl] at H; exact H
        clear H
        have H := H1
        clear H1
        obtain rfl := Option.some.inj H
        go_enter Try.func34, Try.ntmps34
        go_wp2_with (first | ((with_reducible refine gate_callee (f := 40) rfl ?_); refine goesL_ (some 11) rfl rfl Try.func40 (by kernel_rfl) rfl #[.int .i64 a0, .int .i64 33, .int .i64 47] rfl (by (try simp only [List.map_toArray, List.map_cons, List.map_nil]); first | done | rfl | (simp only [List.length_drop, List.length_take]; rfl)) ?_; (with_reducible refine (abugidaref05_within.calls a0 33 47 true _ A4.out).mono ?_); rintro e w' ⟨rfl, ⟨nd, rfl⟩⟩; refine ⟨_, rfl, ?_⟩))
        go_ret
        exact ⟨by first | rfl | (simp; done) | (simp [*]; done), by repeat (first | exact Drawn0.refl _ | apply Drawn0.step)⟩
      · replace c5 := Bool.eq_false_iff.mpr c5
        subst c5
        have H1 : ((abugidaref05_within.f a0 48 57).bind fun t267 => (if t267 = true then (some 3) else ((abugidaref05_within.f a0 64 95).bind fun t268 => (if t268 = true then (some 5) else ((abugidaref05_within.f a0 96 103).bind fun t269 => (if t269 = true then (abugidaref05_Class.j0 k a0 true) else ((abugidaref05_within.f a0 144 151).bind fun t270 => (if t270 = true then (abugidaref05_Class.j0 k a0 true) else ((abugidaref05_within.f a0 200 207).bind fun t271 => (abugidaref05_Class.j0 k a0 t271)))))))))) = some r := by rw [if_neg (show ¬ (false = true) by decide)] at H; exact H
        clear H
        have H := H1
        clear H1
        replace H := Option.bind_eq_some_iff.mp H
        obtain ⟨t267, A60, H⟩ := H
        replace H : (if t267 = true then (some 3) else ((abugidaref05_within.f a0 64 95).bind fun t268 => (if t268 = true then (some 5) else ((abugidaref05_within.f a0 96 103).bind fun t269 => (if t269 = true then (abugidaref05_Class.j0 k a0 true) else ((abugidaref05_within.f a0 144 151).bind fun t270 => (if t270 = true then (abugidaref05_Class.j0 k a0 true) else ((abugidaref05_within.f a0 200 207).bind fun t271 => (abugidaref05_Class.j0 k a0 t271))))))))) = some r := H
        have A6 := Aside0.mk A60
        clear A60
        by_cases c7 : t267 = true
        · subst c7
          have H1 : (some 3) = some r := by rw [if_pos rfl] at H; exact H
          clear H
          have H := H1
          clear H1
          obtain rfl := Option.some.inj H
          go_enter Try.func34, Try.ntmps34
          go_wp2_with (first | ((with_reducible refine gate_callee (f := 40) rfl ?_); refine goesL_ (some 11) rfl rfl Try.func40 (by kernel_rfl) rfl #[.int .i64 a0, .int .i64 33, .int .i64 47] rfl (by (try simp only [List.map_toArray, List.map_cons, List.map_nil]); first | done | rfl | (simp only [List.length_drop, List.length_take]; rfl)) ?_; (with_reducible refine (abugidaref05_within.calls a0 33 47 false _ A4.out).mono ?_); rintro e w' ⟨rfl, ⟨nd, rfl⟩⟩; refine ⟨_, rfl, ?_⟩) | ((with_reducible refine gate_callee (f := 40) rfl ?_); refine goesL_ (some 14) rfl rfl Try.func40 (by kernel_rfl) rfl #[.int .i64 a0, .int .i64 48, .int .i64 57] rfl (by (try simp only [List.map_toArray, List.map_cons, List.map_nil]); first | done | rfl | (simp only [List.length_drop, List.length_take]; rfl)) ?_; (with_reducible refine (abugidaref05_within.calls a0 48 57 true _ A6.out).mono ?_); rintro e w' ⟨rfl, ⟨nd, rfl⟩⟩; refine ⟨_, rfl, ?_⟩))
          go_ret
          exact ⟨by first | rfl | (simp; done) | (simp [*]; done), by repeat (first | exact Drawn0.refl _ | apply Drawn0.step)⟩
        · replace c7 := Bool.eq_false_iff.mpr c7
          subst c7
          have H1 : ((abugidaref05_within.f a0 64 95).bind fun t268 => (if t268 = true then (some 5) else ((abugidaref05_within.f a0 96 103).bind fun t269 => (if t269 = true then (abugidaref05_Class.j0 k a0 true) else ((abugidaref05_within.f a0 144 151).bind fun t270 => (if t270 = true then (abugidaref05_Class.j0 k a0 true) else ((abugidaref05_within.f a0 200 207).bind fun t271 => (abugidaref05_Class.j0 k a0 t271)))))))) = some r := by rw [if_neg (show ¬ (false = true) by decide)] at H; exact H
          clear H
          have H := H1
          clear H1
          replace H := Option.bind_eq_some_iff.mp H
          obtain ⟨t268, A80, H⟩ := H
          replace H : (if t268 = true then (some 5) else ((abugidaref05_within.f a0 96 103).bind fun t269 => (if t269 = true then (abugidaref05_Class.j0 k a0 true) else ((abugidaref05_within.f a0 144 151).bind fun t270 => (if t270 = true then (abugidaref05_Class.j0 k a0 true) else ((abugidaref05_within.f a0 200 207).bind fun t271 => (abugidaref05_Class.j0 k a0 t271))))))) = some r := H
          have A8 := Aside0.mk A80
          clear A80
          by_cases c9 : t268 = true
          · subst c9
            have H1 : (some 5) = some r := by rw [if_pos rfl] at H; exact H
            clear H
            have H := H1
            clear H1
            obtain rfl := Option.some.inj H
            go_enter Try.func34, Try.ntmps34
            go_wp2_with (first | ((with_reducible refine gate_callee (f := 40) rfl ?_); refine goesL_ (some 11) rfl rfl Try.func40 (by kernel_rfl) rfl #[.int .i64 a0, .int .i64 33, .int .i64 47] rfl (by (try simp only [List.map_toArray, List.map_cons, List.map_nil]); first | done | rfl | (simp only [List.length_drop, List.length_take]; rfl)) ?_; (with_reducible refine (abugidaref05_within.calls a0 33 47 false _ A4.out).mono ?_); rintro e w' ⟨rfl, ⟨nd, rfl⟩⟩; refine ⟨_, rfl, ?_⟩) | ((with_reducible refine gate_callee (f := 40) rfl ?_); refine goesL_ (some 14) rfl rfl Try.func40 (by kernel_rfl) rfl #[.int .i64 a0, .int .i64 48, .int .i64 57] rfl (by (try simp only [List.map_toArray, List.map_cons, List.map_nil]); first | done | rfl | (simp only [List.length_drop, List.length_take]; rfl)) ?_; (with_reducible refine (abugidaref05_within.calls a0 48 57 false _ A6.out).mono ?_); rintro e w' ⟨rfl, ⟨nd, rfl⟩⟩; refine ⟨_, rfl, ?_⟩) | ((with_reducible refine gate_callee (f := 40) rfl ?_); refine goesL_ (some 17) rfl rfl Try.func40 (by kernel_rfl) rfl #[.int .i64 a0, .int .i64 64, .int .i64 95] rfl (by (try simp only [List.map_toArray, List.map_cons, List.map_nil]); first | done | rfl | (simp only [List.length_drop, List.length_take]; rfl)) ?_; (with_reducible refine (abugidaref05_within.calls a0 64 95 true _ A8.out).mono ?_); rintro e w' ⟨rfl, ⟨nd, rfl⟩⟩; refine ⟨_, rfl, ?_⟩))
            go_ret
            exact ⟨by first | rfl | (simp; done) | (simp [*]; done), by repeat (first | exact Drawn0.refl _ | apply Drawn0.step)⟩
          · replace c9 := Bool.eq_false_iff.mpr c9
            subst c9
            have H1 : ((abugidaref05_within.f a0 96 103).bind fun t269 => (if t269 = true then (abugidaref05_Class.j0 k a0 true) else ((abugidaref05_within.f a0 144 151).bind fun t270 => (if t270 = true then (abugidaref05_Class.j0 k a0 true) else ((abugidaref05_within.f a0 200 207).bind fun t271 => (abugidaref05_Class.j0 k a0 t271)))))) = some r := by rw [if_neg (show ¬ (false = true) by decide)] at H; exact H
            clear H
            have H := H1
            clear H1
            have HC10 := Aside0.mk H
            clear H
            go_enter Try.func34, Try.ntmps34
            go_upto_region 11 with (first | ((with_reducible refine gate_callee (f := 40) rfl ?_); refine goesL_ (some 11) rfl rfl Try.func40 (by kernel_rfl) rfl #[.int .i64 a0, .int .i64 33, .int .i64 47] rfl (by (try simp only [List.map_toArray, List.map_cons, List.map_nil]); first | done | rfl | (simp only [List.length_drop, List.length_take]; rfl)) ?_; (with_reducible refine (abugidaref05_within.calls a0 33 47 false _ A4.out).mono ?_); rintro e w' ⟨rfl, ⟨nd, rfl⟩⟩; refine ⟨_, rfl, ?_⟩) | ((with_reducible refine gate_callee (f := 40) rfl ?_); refine goesL_ (some 14) rfl rfl Try.func40 (by kernel_rfl) rfl #[.int .i64 a0, .int .i64 48, .int .i64 57] rfl (by (try simp only [List.map_toArray, List.map_cons, List.map_nil]); first | done | rfl | (simp only [List.length_drop, List.length_take]; rfl)) ?_; (with_reducible refine (abugidaref05_within.calls a0 48 57 false _ A6.out).mono ?_); rintro e w' ⟨rfl, ⟨nd, rfl⟩⟩; refine ⟨_, rfl, ?_⟩) | ((with_reducible refine gate_callee (f := 40) rfl ?_); refine goesL_ (some 17) rfl rfl Try.func40 (by kernel_rfl) rfl #[.int .i64 a0, .int .i64 64, .int .i64 95] rfl (by (try simp only [List.map_toArray, List.map_cons, List.map_nil]); first | done | rfl | (simp only [List.length_drop, List.length_take]; rfl)) ?_; (with_reducible refine (abugidaref05_within.calls a0 64 95 false _ A8.out).mono ?_); rintro e w' ⟨rfl, ⟨nd, rfl⟩⟩; refine ⟨_, rfl, ?_⟩))
            (try simp only [Act.put, List.setIfInBounds_toArray, List.set_cons_zero, List.set_cons_succ])
            go_cut [18] (fun v18 wc => ∃ (kq : Nat) (x18_9 : Bool), v18 = .bool x18_9 ∧ Aside0 (abugidaref05_Class.j0 kq a0 x18_9 = some r) ∧ Aside0 (kq ≤ k) ∧ Drawn0 w wc)
            case first =>
              have H := HC10.out
              clear HC10
              replace H := Option.bind_eq_some_iff.mp H
              obtain ⟨t269, A110, H⟩ := H
              replace H : (if t269 = true then (abugidaref05_Class.j0 k a0 true) else ((abugidaref05_within.f a0 144 151).bind fun t270 => (if t270 = true then (abugidaref05_Class.j0 k a0 true) else ((abugidaref05_within.f a0 200 207).bind fun t271 => (abugidaref05_Class.j0 k a0 t271))))) = some r := H
              have A11 := Aside0.mk A110
              clear A110
              by_cases c12 : t269 = true
              · subst c12
                have H1 : (abugidaref05_Class.j0 k a0 true) = some r := by rw [if_pos rfl] at H; exact H
                clear H
                have H := H1
                clear H1
                have H' := Aside0.mk H
                clear H
                go_wp2_with (first | ((with_reducible refine gate_callee (f := 40) rfl ?_); refine goesL_ (some 20) rfl rfl Try.func40 (by kernel_rfl) rfl #[.int .i64 a0, .int .i64 96, .int .i64 103] rfl (by (try simp only [List.map_toArray, List.map_cons, List.map_nil]); first | done | rfl | (simp only [List.length_drop, List.length_take]; rfl)) ?_; (with_reducible refine (abugidaref05_within.calls a0 96 103 true _ A11.out).mono ?_); rintro e w' ⟨rfl, ⟨nd, rfl⟩⟩; refine ⟨_, rfl, ?_⟩))
                go_meet
                case rel => exact ⟨_, (true), (by first | rfl | (simp; done) | (simp [*]; done)), H', ⟨by first | omega | exact Nat.le_refl _⟩, by repeat (first | exact Drawn0.refl _ | apply Drawn0.step)⟩
              · replace c12 := Bool.eq_false_iff.mpr c12
                subst c12
                have H1 : ((abugidaref05_within.f a0 144 151).bind fun t270 => (if t270 = true then (abugidaref05_Class.j0 k a0 true) else ((abugidaref05_within.f a0 200 207).bind fun t271 => (abugidaref05_Class.j0 k a0 t271)))) = some r := by rw [if_neg (show ¬ (false = true) by decide)] at H; exact H
                clear H
                have H := H1
                clear H1
                replace H := Option.bind_eq_some_iff.mp H
                obtain ⟨t270, A130, H⟩ := H
                replace H : (if t270 = true then (abugidaref05_Class.j0 k a0 true) else ((abugidaref05_within.f a0 200 207).bind fun t271 => (abugidaref05_Class.j0 k a0 t271))) = some r := H
                have A13 := Aside0.mk A130
                clear A130
                by_cases c14 : t270 = true
                · subst c14
                  have H1 : (abugidaref05_Class.j0 k a0 true) = some r := by rw [if_pos rfl] at H; exact H
                  clear H
                  have H := H1
                  clear H1
                  have H' := Aside0.mk H
                  clear H
                  go_wp2_with (first | ((with_reducible refine gate_callee (f := 40) rfl ?_); refine goesL_ (some 20) rfl rfl Try.func40 (by kernel_rfl) rfl #[.int .i64 a0, .int .i64 96, .int .i64 103] rfl (by (try simp only [List.map_toArray, List.map_cons, List.map_nil]); first | done | rfl | (simp only [List.length_drop, List.length_take]; rfl)) ?_; (with_reducible refine (abugidaref05_within.calls a0 96 103 false _ A11.out).mono ?_); rintro e w' ⟨rfl, ⟨nd, rfl⟩⟩; refine ⟨_, rfl, ?_⟩) | (go_at_call 40; (with_reducible refine (abugidaref05_within.calls a0 144 151 true _ A13.out).mono ?_); rintro e w' ⟨rfl, ⟨nd, rfl⟩⟩))
                  go_meet
                  case rel => exact ⟨_, (true), (by first | rfl | (simp; done) | (simp [*]; done)), H', ⟨by first | omega | exact Nat.le_refl _⟩, by repeat (first | exact Drawn0.refl _ | apply Drawn0.step)⟩
                · replace c14 := Bool.eq_false_iff.mpr c14
                  subst c14
                  have H1 : ((abugidaref05_within.f a0 200 207).bind fun t271 => (abugidaref05_Class.j0 k a0 t271)) = some r := by rw [if_neg (show ¬ (false = true) by decide)] at H; exact H
                  clear H
                  have H := H1
                  clear H1
                  replace H := Option.bind_eq_some_iff.mp H
                  obtain ⟨t271, A150, H⟩ := H
                  replace H : (abugidaref05_Class.j0 k a0 t271) = some r := H
                  have A15 := Aside0.mk A150
                  clear A150
                  have H' := Aside0.mk H
                  clear H
                  go_wp2_with (first | ((with_reducible refine gate_callee (f := 40) rfl ?_); refine goesL_ (some 20) rfl rfl Try.func40 (by kernel_rfl) rfl #[.int .i64 a0, .int .i64 96, .int .i64 103] rfl (by (try simp only [List.map_toArray, List.map_cons, List.map_nil]); first | done | rfl | (simp only [List.length_drop, List.length_take]; rfl)) ?_; (with_reducible refine (abugidaref05_within.calls a0 96 103 false _ A11.out).mono ?_); rintro e w' ⟨rfl, ⟨nd, rfl⟩⟩; refine ⟨_, rfl, ?_⟩) | (go_at_call 40; (with_reducible refine (abugidaref05_within.calls a0 144 151 false _ A13.out).mono ?_); rintro e w' ⟨rfl, ⟨nd, rfl⟩⟩) | (go_at_call 40; (with_reducible refine (abugidaref05_within.calls a0 200 207 t271 _ A15.out).mono ?_); rintro e w' ⟨rfl, ⟨nd, rfl⟩⟩))
                  go_meet
                  case rel => exact ⟨_, (t271), (by first | rfl | (simp; done) | (simp [*]; done)), H', ⟨by first | omega | exact Nat.le_refl _⟩, by repeat (first | exact Drawn0.refl _ | apply Drawn0.step)⟩
            case rest =>
              clear HC10
              try clear c1
              try clear c2
              try clear c2b0
              try clear c2b1
              try clear p2
              try clear c3
              try clear c3b0
              try clear c3b1
              try clear c4
              try clear c5
              try clear c7
              try clear c9
              try clear c12
              try clear c14
              obtain ⟨kq, x18_9, rfl, HA, HJ9, ⟨mc9, rfl⟩⟩ := hcut
              cases kq with
              | zero => exact absurd HA.out (by simp [abugidaref05_Class.j0])
              | succ kj9 =>
                have H := HA.out
                clear HA
                simp only [abugidaref05_Class.j0] at H
                by_cases c16 : x18_9 = true
                · subst c16
                  have H1 : (some 6) = some r := by rw [if_pos rfl] at H; exact H
                  clear H
                  have H := H1
                  clear H1
                  obtain rfl := Option.some.inj H
                  go_wp2
                  go_ret
                  exact ⟨by first | rfl | (simp; done) | (simp [*]; done), by repeat (first | exact Drawn0.refl _ | apply Drawn0.step)⟩
                · replace c16 := Bool.eq_false_iff.mpr c16
                  subst c16
                  have H1 : ((abugidaref05_within.f a0 104 127).bind fun t272 => (if t272 = true then (some 7) else ((abugidaref05_within.f a0 128 143).bind fun t273 => (if t273 = true then (some 8) else ((abugidaref05_within.f a0 152 183).bind fun t274 => (if t274 = true then (some 9) else (if a0 = 184 then (some 10) else ((abugidaref05_within.f a0 185 191).bind fun t275 => (if t275 = true then (some 11) else ((abugidaref05_within.f a0 192 199).bind fun t276 => (if t276 = true then (some 12) else (if a0 = 240 then (some 13) else (if a0 = 241 then (some 14) else (some 0)))))))))))))) = some r := by rw [if_neg (show ¬ (false = true) by decide)] at H; exact H
                  clear H
                  have H := H1
                  clear H1
                  replace H := Option.bind_eq_some_iff.mp H
                  obtain ⟨t272, A170, H⟩ := H
                  replace H : (if t272 = true then (some 7) else ((abugidaref05_within.f a0 128 143).bind fun t273 => (if t273 = true then (some 8) else ((abugidaref05_within.f a0 152 183).bind fun t274 => (if t274 = true then (some 9) else (if a0 = 184 then (some 10) else ((abugidaref05_within.f a0 185 191).bind fun t275 => (if t275 = true then (some 11) else ((abugidaref05_within.f a0 192 199).bind fun t276 => (if t276 = true then (some 12) else (if a0 = 240 then (some 13) else (if a0 = 241 then (some 14) else (some 0))))))))))))) = some r := H
                  have A17 := Aside0.mk A170
                  clear A170
                  by_cases c18 : t272 = true
                  · subst c18
                    have H1 : (some 7) = some r := by rw [if_pos rfl] at H; exact H
                    clear H
                    have H := H1
                    clear H1
                    obtain rfl := Option.some.inj H
                    go_wp2_with (first | ((with_reducible refine gate_callee (f := 40) rfl ?_); refine goesL_ (some 31) rfl rfl Try.func40 (by kernel_rfl) rfl #[.int .i64 a0, .int .i64 104, .int .i64 127] rfl (by (try simp only [List.map_toArray, List.map_cons, List.map_nil]); first | done | rfl | (simp only [List.length_drop, List.length_take]; rfl)) ?_; (with_reducible refine (abugidaref05_within.calls a0 104 127 true _ A17.out).mono ?_); rintro e w' ⟨rfl, ⟨nd, rfl⟩⟩; refine ⟨_, rfl, ?_⟩))
                    go_ret
                    exact ⟨by first | rfl | (simp; done) | (simp [*]; done), by repeat (first | exact Drawn0.refl _ | apply Drawn0.step)⟩
                  · replace c18 := Bool.eq_false_iff.mpr c18
                    subst c18
                    have H1 : ((abugidaref05_within.f a0 128 143).bind fun t273 => (if t273 = true then (some 8) else ((abugidaref05_within.f a0 152 183).bind fun t274 => (if t274 = true then (some 9) else (if a0 = 184 then (some 10) else ((abugidaref05_within.f a0 185 191).bind fun t275 => (if t275 = true then (some 11) else ((abugidaref05_within.f a0 192 199).bind fun t276 => (if t276 = true then (some 12) else (if a0 = 240 then (some 13) else (if a0 = 241 then (some 14) else (some 0)))))))))))) = some r := by rw [if_neg (show ¬ (false = true) by decide)] at H; exact H
                    clear H
                    have H := H1
                    clear H1
                    replace H := Option.bind_eq_some_iff.mp H
                    obtain ⟨t273, A190, H⟩ := H
                    replace H : (if t273 = true then (some 8) else ((abugidaref05_within.f a0 152 183).bind fun t274 => (if t274 = true then (some 9) else (if a0 = 184 then (some 10) else ((abugidaref05_within.f a0 185 191).bind fun t275 => (if t275 = true then (some 11) else ((abugidaref05_within.f a0 192 199).bind fun t276 => (if t276 = true then (some 12) else (if a0 = 240 then (some 13) else (if a0 = 241 then (some 14) else (some 0))))))))))) = some r := H
                    have A19 := Aside0.mk A190
                    clear A190
                    by_cases c20 : t273 = true
                    · subst c20
                      have H1 : (some 8) = some r := by rw [if_pos rfl] at H; exact H
                      clear H
                      have H := H1
                      clear H1
                      obtain rfl := Option.some.inj H
                      go_wp2_with (first | ((with_reducible refine gate_callee (f := 40) rfl ?_); refine goesL_ (some 31) rfl rfl Try.func40 (by kernel_rfl) rfl #[.int .i64 a0, .int .i64 104, .int .i64 127] rfl (by (try simp only [List.map_toArray, List.map_cons, List.map_nil]); first | done | rfl | (simp only [List.length_drop, List.length_take]; rfl)) ?_; (with_reducible refine (abugidaref05_within.calls a0 104 127 false _ A17.out).mono ?_); rintro e w' ⟨rfl, ⟨nd, rfl⟩⟩; refine ⟨_, rfl, ?_⟩) | ((with_reducible refine gate_callee (f := 40) rfl ?_); refine goesL_ (some 34) rfl rfl Try.func40 (by kernel_rfl) rfl #[.int .i64 a0, .int .i64 128, .int .i64 143] rfl (by (try simp only [List.map_toArray, List.map_cons, List.map_nil]); first | done | rfl | (simp only [List.length_drop, List.length_take]; rfl)) ?_; (with_reducible refine (abugidaref05_within.calls a0 128 143 true _ A19.out).mono ?_); rintro e w' ⟨rfl, ⟨nd, rfl⟩⟩; refine ⟨_, rfl, ?_⟩))
                      go_ret
                      exact ⟨by first | rfl | (simp; done) | (simp [*]; done), by repeat (first | exact Drawn0.refl _ | apply Drawn0.step)⟩
                    · replace c20 := Bool.eq_false_iff.mpr c20
                      subst c20
                      have H1 : ((abugidaref05_within.f a0 152 183).bind fun t274 => (if t274 = true then (some 9) else (if a0 = 184 then (some 10) else ((abugidaref05_within.f a0 185 191).bind fun t275 => (if t275 = true then (some 11) else ((abugidaref05_within.f a0 192 199).bind fun t276 => (if t276 = true then (some 12) else (if a0 = 240 then (some 13) else (if a0 = 241 then (some 14) else (some 0)))))))))) = some r := by rw [if_neg (show ¬ (false = true) by decide)] at H; exact H
                      clear H
                      have H := H1
                      clear H1
                      replace H := Option.bind_eq_some_iff.mp H
                      obtain ⟨t274, A210, H⟩ := H
                      replace H : (if t274 = true then (some 9) else (if a0 = 184 then (some 10) else ((abugidaref05_within.f a0 185 191).bind fun t275 => (if t275 = true then (some 11) else ((abugidaref05_within.f a0 192 199).bind fun t276 => (if t276 = true then (some 12) else (if a0 = 240 then (some 13) else (if a0 = 241 then (some 14) else (some 0))))))))) = some r := H
                      have A21 := Aside0.mk A210
                      clear A210
                      by_cases c22 : t274 = true
                      · subst c22
                        have H1 : (some 9) = some r := by rw [if_pos rfl] at H; exact H
                        clear H
                        have H := H1
                        clear H1
                        obtain rfl := Option.some.inj H
                        go_wp2_with (first | ((with_reducible refine gate_callee (f := 40) rfl ?_); refine goesL_ (some 31) rfl rfl Try.func40 (by kernel_rfl) rfl #[.int .i64 a0, .int .i64 104, .int .i64 127] rfl (by (try simp only [List.map_toArray, List.map_cons, List.map_nil]); first | done | rfl | (simp only [List.length_drop, List.length_take]; rfl)) ?_; (with_reducible refine (abugidaref05_within.calls a0 104 127 false _ A17.out).mono ?_); rintro e w' ⟨rfl, ⟨nd, rfl⟩⟩; refine ⟨_, rfl, ?_⟩) | ((with_reducible refine gate_callee (f := 40) rfl ?_); refine goesL_ (some 34) rfl rfl Try.func40 (by kernel_rfl) rfl #[.int .i64 a0, .int .i64 128, .int .i64 143] rfl (by (try simp only [List.map_toArray, List.map_cons, List.map_nil]); first | done | rfl | (simp only [List.length_drop, List.length_take]; rfl)) ?_; (with_reducible refine (abugidaref05_within.calls a0 128 143 false _ A19.out).mono ?_); rintro e w' ⟨rfl, ⟨nd, rfl⟩⟩; refine ⟨_, rfl, ?_⟩) | ((with_reducible refine gate_callee (f := 40) rfl ?_); refine goesL_ (some 37) rfl rfl Try.func40 (by kernel_rfl) rfl #[.int .i64 a0, .int .i64 152, .int .i64 183] rfl (by (try simp only [List.map_toArray, List.map_cons, List.map_nil]); first | done | rfl | (simp only [List.length_drop, List.length_take]; rfl)) ?_; (with_reducible refine (abugidaref05_within.calls a0 152 183 true _ A21.out).mono ?_); rintro e w' ⟨rfl, ⟨nd, rfl⟩⟩; refine ⟨_, rfl, ?_⟩))
                        go_ret
                        exact ⟨by first | rfl | (simp; done) | (simp [*]; done), by repeat (first | exact Drawn0.refl _ | apply Drawn0.step)⟩
                      · replace c22 := Bool.eq_false_iff.mpr c22
                        subst c22
                        have H1 : (if a0 = 184 then (some 10) else ((abugidaref05_within.f a0 185 191).bind fun t275 => (if t275 = true then (some 11) else ((abugidaref05_within.f a0 192 199).bind fun t276 => (if t276 = true then (some 12) else (if a0 = 240 then (some 13) else (if a0 = 241 then (some 14) else (some 0)))))))) = some r := by rw [if_neg (show ¬ (false = true) by decide)] at H; exact H
                        clear H
                        have H := H1
                        clear H1
                        by_cases c23 : a0 = 184
                        · rw [if_pos c23] at H
                          have c23b0 : (a0 == 184) = true := beq_iff_eq.mpr c23
                          have c23b1 : (a0 != 184) = false := bne_eq_false_iff_eq.mpr c23
                          clear c23
                          obtain rfl := Option.some.inj H
                          go_wp2_with (first | ((with_reducible refine gate_callee (f := 40) rfl ?_); refine goesL_ (some 31) rfl rfl Try.func40 (by kernel_rfl) rfl #[.int .i64 a0, .int .i64 104, .int .i64 127] rfl (by (try simp only [List.map_toArray, List.map_cons, List.map_nil]); first | done | rfl | (simp only [List.length_drop, List.length_take]; rfl)) ?_; (with_reducible refine (abugidaref05_within.calls a0 104 127 false _ A17.out).mono ?_); rintro e w' ⟨rfl, ⟨nd, rfl⟩⟩; refine ⟨_, rfl, ?_⟩) | ((with_reducible refine gate_callee (f := 40) rfl ?_); refine goesL_ (some 34) rfl rfl Try.func40 (by kernel_rfl) rfl #[.int .i64 a0, .int .i64 128, .int .i64 143] rfl (by (try simp only [List.map_toArray, List.map_cons, List.map_nil]); first | done | rfl | (simp only [List.length_drop, List.length_take]; rfl)) ?_; (with_reducible refine (abugidaref05_within.calls a0 128 143 false _ A19.out).mono ?_); rintro e w' ⟨rfl, ⟨nd, rfl⟩⟩; refine ⟨_, rfl, ?_⟩) | ((with_reducible refine gate_callee (f := 40) rfl ?_); refine goesL_ (some 37) rfl rfl Try.func40 (by kernel_rfl) rfl #[.int .i64 a0, .int .i64 152, .int .i64 183] rfl (by (try simp only [List.map_toArray, List.map_cons, List.map_nil]); first | done | rfl | (simp only [List.length_drop, List.length_take]; rfl)) ?_; (with_reducible refine (abugidaref05_within.calls a0 152 183 false _ A21.out).mono ?_); rintro e w' ⟨rfl, ⟨nd, rfl⟩⟩; refine ⟨_, rfl, ?_⟩))
                          go_ret
                          exact ⟨by first | rfl | (simp; done) | (simp [*]; done), by repeat (first | exact Drawn0.refl _ | apply Drawn0.step)⟩
                        · rw [if_neg c23] at H
                          have c23b0 : (a0 == 184) = false := beq_eq_false_iff_ne.mpr c23
                          have c23b1 : (a0 != 184) = true := bne_iff_ne.mpr c23
                          replace H := Option.bind_eq_some_iff.mp H
                          obtain ⟨t275, A240, H⟩ := H
                          replace H : (if t275 = true then (some 11) else ((abugidaref05_within.f a0 192 199).bind fun t276 => (if t276 = true then (some 12) else (if a0 = 240 then (some 13) else (if a0 = 241 then (some 14) else (some 0)))))) = some r := H
                          have A24 := Aside0.mk A240
                          clear A240
                          by_cases c25 : t275 = true
                          · subst c25
                            have H1 : (some 11) = some r := by rw [if_pos rfl] at H; exact H
                            clear H
                            have H := H1
                            clear H1
                            obtain rfl := Option.some.inj H
                            go_wp2_with (first | ((with_reducible refine gate_callee (f := 40) rfl ?_); refine goesL_ (some 31) rfl rfl Try.func40 (by kernel_rfl) rfl #[.int .i64 a0, .int .i64 104, .int .i64 127] rfl (by (try simp only [List.map_toArray, List.map_cons, List.map_nil]); first | done | rfl | (simp only [List.length_drop, List.length_take]; rfl)) ?_; (with_reducible refine (abugidaref05_within.calls a0 104 127 false _ A17.out).mono ?_); rintro e w' ⟨rfl, ⟨nd, rfl⟩⟩; refine ⟨_, rfl, ?_⟩) | ((with_reducible refine gate_callee (f := 40) rfl ?_); refine goesL_ (some 34) rfl rfl Try.func40 (by kernel_rfl) rfl #[.int .i64 a0, .int .i64 128, .int .i64 143] rfl (by (try simp only [List.map_toArray, List.map_cons, List.map_nil]); first | done | rfl | (simp only [List.length_drop, List.length_take]; rfl)) ?_; (with_reducible refine (abugidaref05_within.calls a0 128 143 false _ A19.out).mono ?_); rintro e w' ⟨rfl, ⟨nd, rfl⟩⟩; refine ⟨_, rfl, ?_⟩) | ((with_reducible refine gate_callee (f := 40) rfl ?_); refine goesL_ (some 37) rfl rfl Try.func40 (by kernel_rfl) rfl #[.int .i64 a0, .int .i64 152, .int .i64 183] rfl (by (try simp only [List.map_toArray, List.map_cons, List.map_nil]); first | done | rfl | (simp only [List.length_drop, List.length_take]; rfl)) ?_; (with_reducible refine (abugidaref05_within.calls a0 152 183 false _ A21.out).mono ?_); rintro e w' ⟨rfl, ⟨nd, rfl⟩⟩; refine ⟨_, rfl, ?_⟩) | ((with_reducible refine gate_callee (f := 40) rfl ?_); refine goesL_ (some 43) rfl rfl Try.func40 (by kernel_rfl) rfl #[.int .i64 a0, .int .i64 185, .int .i64 191] rfl (by (try simp only [List.map_toArray, List.map_cons, List.map_nil]); first | done | rfl | (simp only [List.length_drop, List.length_take]; rfl)) ?_; (with_reducible refine (abugidaref05_within.calls a0 185 191 true _ A24.out).mono ?_); rintro e w' ⟨rfl, ⟨nd, rfl⟩⟩; refine ⟨_, rfl, ?_⟩))
                            go_ret
                            exact ⟨by first | rfl | (simp; done) | (simp [*]; done), by repeat (first | exact Drawn0.refl _ | apply Drawn0.step)⟩
                          · replace c25 := Bool.eq_false_iff.mpr c25
                            subst c25
                            have H1 : ((abugidaref05_within.f a0 192 199).bind fun t276 => (if t276 = true then (some 12) else (if a0 = 240 then (some 13) else (if a0 = 241 then (some 14) else (some 0))))) = some r := by rw [if_neg (show ¬ (false = true) by decide)] at H; exact H
                            clear H
                            have H := H1
                            clear H1
                            replace H := Option.bind_eq_some_iff.mp H
                            obtain ⟨t276, A260, H⟩ := H
                            replace H : (if t276 = true then (some 12) else (if a0 = 240 then (some 13) else (if a0 = 241 then (some 14) else (some 0)))) = some r := H
                            have A26 := Aside0.mk A260
                            clear A260
                            by_cases c27 : t276 = true
                            · subst c27
                              have H1 : (some 12) = some r := by rw [if_pos rfl] at H; exact H
                              clear H
                              have H := H1
                              clear H1
                              obtain rfl := Option.some.inj H
                              go_wp2_with (first | ((with_reducible refine gate_callee (f := 40) rfl ?_); refine goesL_ (some 31) rfl rfl Try.func40 (by kernel_rfl) rfl #[.int .i64 a0, .int .i64 104, .int .i64 127] rfl (by (try simp only [List.map_toArray, List.map_cons, List.map_nil]); first | done | rfl | (simp only [List.length_drop, List.length_take]; rfl)) ?_; (with_reducible refine (abugidaref05_within.calls a0 104 127 false _ A17.out).mono ?_); rintro e w' ⟨rfl, ⟨nd, rfl⟩⟩; refine ⟨_, rfl, ?_⟩) | ((with_reducible refine gate_callee (f := 40) rfl ?_); refine goesL_ (some 34) rfl rfl Try.func40 (by kernel_rfl) rfl #[.int .i64 a0, .int .i64 128, .int .i64 143] rfl (by (try simp only [List.map_toArray, List.map_cons, List.map_nil]); first | done | rfl | (simp only [List.length_drop, List.length_take]; rfl)) ?_; (with_reducible refine (abugidaref05_within.calls a0 128 143 false _ A19.out).mono ?_); rintro e w' ⟨rfl, ⟨nd, rfl⟩⟩; refine ⟨_, rfl, ?_⟩) | ((with_reducible refine gate_callee (f := 40) rfl ?_); refine goesL_ (some 37) rfl rfl Try.func40 (by kernel_rfl) rfl #[.int .i64 a0, .int .i64 152, .int .i64 183] rfl (by (try simp only [List.map_toArray, List.map_cons, List.map_nil]); first | done | rfl | (simp only [List.length_drop, List.length_take]; rfl)) ?_; (with_reducible refine (abugidaref05_within.calls a0 152 183 false _ A21.out).mono ?_); rintro e w' ⟨rfl, ⟨nd, rfl⟩⟩; refine ⟨_, rfl, ?_⟩) | ((with_reducible refine gate_callee (f := 40) rfl ?_); refine goesL_ (some 43) rfl rfl Try.func40 (by kernel_rfl) rfl #[.int .i64 a0, .int .i64 185, .int .i64 191] rfl (by (try simp only [List.map_toArray, List.map_cons, List.map_nil]); first | done | rfl | (simp only [List.length_drop, List.length_take]; rfl)) ?_; (with_reducible refine (abugidaref05_within.calls a0 185 191 false _ A24.out).mono ?_); rintro e w' ⟨rfl, ⟨nd, rfl⟩⟩; refine ⟨_, rfl, ?_⟩) | ((with_reducible refine gate_callee (f := 40) rfl ?_); refine goesL_ (some 46) rfl rfl Try.func40 (by kernel_rfl) rfl #[.int .i64 a0, .int .i64 192, .int .i64 199] rfl (by (try simp only [List.map_toArray, List.map_cons, List.map_nil]); first | done | rfl | (simp only [List.length_drop, List.length_take]; rfl)) ?_; (with_reducible refine (abugidaref05_within.calls a0 192 199 true _ A26.out).mono ?_); rintro e w' ⟨rfl, ⟨nd, rfl⟩⟩; refine ⟨_, rfl, ?_⟩))
                              go_ret
                              exact ⟨by first | rfl | (simp; done) | (simp [*]; done), by repeat (first | exact Drawn0.refl _ | apply Drawn0.step)⟩
                            · replace c27 := Bool.eq_false_iff.mpr c27
                              subst c27
                              have H1 : (if a0 = 240 then (some 13) else (if a0 = 241 then (some 14) else (some 0))) = some r := by rw [if_neg (show ¬ (false = true) by decide)] at H; exact H
                              clear H
                              have H := H1
                              clear H1
                              by_cases c28 : a0 = 240
                              · rw [if_pos c28] at H
                                have c28b0 : (a0 == 240) = true := beq_iff_eq.mpr c28
                                have c28b1 : (a0 != 240) = false := bne_eq_false_iff_eq.mpr c28
                                clear c28
                                obtain rfl := Option.some.inj H
                                go_wp2_with (first | ((with_reducible refine gate_callee (f := 40) rfl ?_); refine goesL_ (some 31) rfl rfl Try.func40 (by kernel_rfl) rfl #[.int .i64 a0, .int .i64 104, .int .i64 127] rfl (by (try simp only [List.map_toArray, List.map_cons, List.map_nil]); first | done | rfl | (simp only [List.length_drop, List.length_take]; rfl)) ?_; (with_reducible refine (abugidaref05_within.calls a0 104 127 false _ A17.out).mono ?_); rintro e w' ⟨rfl, ⟨nd, rfl⟩⟩; refine ⟨_, rfl, ?_⟩) | ((with_reducible refine gate_callee (f := 40) rfl ?_); refine goesL_ (some 34) rfl rfl Try.func40 (by kernel_rfl) rfl #[.int .i64 a0, .int .i64 128, .int .i64 143] rfl (by (try simp only [List.map_toArray, List.map_cons, List.map_nil]); first | done | rfl | (simp only [List.length_drop, List.length_take]; rfl)) ?_; (with_reducible refine (abugidaref05_within.calls a0 128 143 false _ A19.out).mono ?_); rintro e w' ⟨rfl, ⟨nd, rfl⟩⟩; refine ⟨_, rfl, ?_⟩) | ((with_reducible refine gate_callee (f := 40) rfl ?_); refine goesL_ (some 37) rfl rfl Try.func40 (by kernel_rfl) rfl #[.int .i64 a0, .int .i64 152, .int .i64 183] rfl (by (try simp only [List.map_toArray, List.map_cons, List.map_nil]); first | done | rfl | (simp only [List.length_drop, List.length_take]; rfl)) ?_; (with_reducible refine (abugidaref05_within.calls a0 152 183 false _ A21.out).mono ?_); rintro e w' ⟨rfl, ⟨nd, rfl⟩⟩; refine ⟨_, rfl, ?_⟩) | ((with_reducible refine gate_callee (f := 40) rfl ?_); refine goesL_ (some 43) rfl rfl Try.func40 (by kernel_rfl) rfl #[.int .i64 a0, .int .i64 185, .int .i64 191] rfl (by (try simp only [List.map_toArray, List.map_cons, List.map_nil]); first | done | rfl | (simp only [List.length_drop, List.length_take]; rfl)) ?_; (with_reducible refine (abugidaref05_within.calls a0 185 191 false _ A24.out).mono ?_); rintro e w' ⟨rfl, ⟨nd, rfl⟩⟩; refine ⟨_, rfl, ?_⟩) | ((with_reducible refine gate_callee (f := 40) rfl ?_); refine goesL_ (some 46) rfl rfl Try.func40 (by kernel_rfl) rfl #[.int .i64 a0, .int .i64 192, .int .i64 199] rfl (by (try simp only [List.map_toArray, List.map_cons, List.map_nil]); first | done | rfl | (simp only [List.length_drop, List.length_take]; rfl)) ?_; (with_reducible refine (abugidaref05_within.calls a0 192 199 false _ A26.out).mono ?_); rintro e w' ⟨rfl, ⟨nd, rfl⟩⟩; refine ⟨_, rfl, ?_⟩))
                                go_ret
                                exact ⟨by first | rfl | (simp; done) | (simp [*]; done), by repeat (first | exact Drawn0.refl _ | apply Drawn0.step)⟩
                              · rw [if_neg c28] at H
                                have c28b0 : (a0 == 240) = false := beq_eq_false_iff_ne.mpr c28
                                have c28b1 : (a0 != 240) = true := bne_iff_ne.mpr c28
                                by_cases c29 : a0 = 241
                                · rw [if_pos c29] at H
                                  have c29b0 : (a0 == 241) = true := beq_iff_eq.mpr c29
                                  have c29b1 : (a0 != 241) = false := bne_eq_false_iff_eq.mpr c29
                                  clear c29
                                  obtain rfl := Option.some.inj H
                                  go_wp2_with (first | ((with_reducible refine gate_callee (f := 40) rfl ?_); refine goesL_ (some 31) rfl rfl Try.func40 (by kernel_rfl) rfl #[.int .i64 a0, .int .i64 104, .int .i64 127] rfl (by (try simp only [List.map_toArray, List.map_cons, List.map_nil]); first | done | rfl | (simp only [List.length_drop, List.length_take]; rfl)) ?_; (with_reducible refine (abugidaref05_within.calls a0 104 127 false _ A17.out).mono ?_); rintro e w' ⟨rfl, ⟨nd, rfl⟩⟩; refine ⟨_, rfl, ?_⟩) | ((with_reducible refine gate_callee (f := 40) rfl ?_); refine goesL_ (some 34) rfl rfl Try.func40 (by kernel_rfl) rfl #[.int .i64 a0, .int .i64 128, .int .i64 143] rfl (by (try simp only [List.map_toArray, List.map_cons, List.map_nil]); first | done | rfl | (simp only [List.length_drop, List.length_take]; rfl)) ?_; (with_reducible refine (abugidaref05_within.calls a0 128 143 false _ A19.out).mono ?_); rintro e w' ⟨rfl, ⟨nd, rfl⟩⟩; refine ⟨_, rfl, ?_⟩) | ((with_reducible refine gate_callee (f := 40) rfl ?_); refine goesL_ (some 37) rfl rfl Try.func40 (by kernel_rfl) rfl #[.int .i64 a0, .int .i64 152, .int .i64 183] rfl (by (try simp only [List.map_toArray, List.map_cons, List.map_nil]); first | done | rfl | (simp only [List.length_drop, List.length_take]; rfl)) ?_; (with_reducible refine (abugidaref05_within.calls a0 152 183 false _ A21.out).mono ?_); rintro e w' ⟨rfl, ⟨nd, rfl⟩⟩; refine ⟨_, rfl, ?_⟩) | ((with_reducible refine gate_callee (f := 40) rfl ?_); refine goesL_ (some 43) rfl rfl Try.func40 (by kernel_rfl) rfl #[.int .i64 a0, .int .i64 185, .int .i64 191] rfl (by (try simp only [List.map_toArray, List.map_cons, List.map_nil]); first | done | rfl | (simp only [List.length_drop, List.length_take]; rfl)) ?_; (with_reducible refine (abugidaref05_within.calls a0 185 191 false _ A24.out).mono ?_); rintro e w' ⟨rfl, ⟨nd, rfl⟩⟩; refine ⟨_, rfl, ?_⟩) | ((with_reducible refine gate_callee (f := 40) rfl ?_); refine goesL_ (some 46) rfl rfl Try.func40 (by kernel_rfl) rfl #[.int .i64 a0, .int .i64 192, .int .i64 199] rfl (by (try simp only [List.map_toArray, List.map_cons, List.map_nil]); first | done | rfl | (simp only [List.length_drop, List.length_take]; rfl)) ?_; (with_reducible refine (abugidaref05_within.calls a0 192 199 false _ A26.out).mono ?_); rintro e w' ⟨rfl, ⟨nd, rfl⟩⟩; refine ⟨_, rfl, ?_⟩))
                                  go_ret
                                  exact ⟨by first | rfl | (simp; done) | (simp [*]; done), by repeat (first | exact Drawn0.refl _ | apply Drawn0.step)⟩
                                · rw [if_neg c29] at H
                                  have c29b0 : (a0 == 241) = false := beq_eq_false_iff_ne.mpr c29
                                  have c29b1 : (a0 != 241) = true := bne_iff_ne.mpr c29
                                  obtain rfl := Option.some.inj H
                                  go_wp2_with (first | ((with_reducible refine gate_callee (f := 40) rfl ?_); refine goesL_ (some 31) rfl rfl Try.func40 (by kernel_rfl) rfl #[.int .i64 a0, .int .i64 104, .int .i64 127] rfl (by (try simp only [List.map_toArray, List.map_cons, List.map_nil]); first | done | rfl | (simp only [List.length_drop, List.length_take]; rfl)) ?_; (with_reducible refine (abugidaref05_within.calls a0 104 127 false _ A17.out).mono ?_); rintro e w' ⟨rfl, ⟨nd, rfl⟩⟩; refine ⟨_, rfl, ?_⟩) | ((with_reducible refine gate_callee (f := 40) rfl ?_); refine goesL_ (some 34) rfl rfl Try.func40 (by kernel_rfl) rfl #[.int .i64 a0, .int .i64 128, .int .i64 143] rfl (by (try simp only [List.map_toArray, List.map_cons, List.map_nil]); first | done | rfl | (simp only [List.length_drop, List.length_take]; rfl)) ?_; (with_reducible refine (abugidaref05_within.calls a0 128 143 false _ A19.out).mono ?_); rintro e w' ⟨rfl, ⟨nd, rfl⟩⟩; refine ⟨_, rfl, ?_⟩) | ((with_reducible refine gate_callee (f := 40) rfl ?_); refine goesL_ (some 37) rfl rfl Try.func40 (by kernel_rfl) rfl #[.int .i64 a0, .int .i64 152, .int .i64 183] rfl (by (try simp only [List.map_toArray, List.map_cons, List.map_nil]); first | done | rfl | (simp only [List.length_drop, List.length_take]; rfl)) ?_; (with_reducible refine (abugidaref05_within.calls a0 152 183 false _ A21.out).mono ?_); rintro e w' ⟨rfl, ⟨nd, rfl⟩⟩; refine ⟨_, rfl, ?_⟩) | ((with_reducible refine gate_callee (f := 40) rfl ?_); refine goesL_ (some 43) rfl rfl Try.func40 (by kernel_rfl) rfl #[.int .i64 a0, .int .i64 185, .int .i64 191] rfl (by (try simp only [List.map_toArray, List.map_cons, List.map_nil]); first | done | rfl | (simp only [List.length_drop, List.length_take]; rfl)) ?_; (with_reducible refine (abugidaref05_within.calls a0 185 191 false _ A24.out).mono ?_); rintro e w' ⟨rfl, ⟨nd, rfl⟩⟩; refine ⟨_, rfl, ?_⟩) | ((with_reducible refine gate_callee (f := 40) rfl ?_); refine goesL_ (some 46) rfl rfl Try.func40 (by kernel_rfl) rfl #[.int .i64 a0, .int .i64 192, .int .i64 199] rfl (by (try simp only [List.map_toArray, List.map_cons, List.map_nil]); first | done | rfl | (simp only [List.length_drop, List.length_take]; rfl)) ?_; (with_reducible refine (abugidaref05_within.calls a0 192 199 false _ A26.out).mono ?_); rintro e w' ⟨rfl, ⟨nd, rfl⟩⟩; refine ⟨_, rfl, ?_⟩))
                                  go_ret
                                  exact ⟨by first | rfl | (simp; done) | (simp [*]; done), by repeat (first | exact Drawn0.refl _ | apply Drawn0.step)⟩

/-! ### abugidaref06_class: function 42 -/
def abugidaref06_class.f (k : Nat) (a0 : ByteArray) (a1 : Int) : Option (Int) := if 0 ≤ a1 then (if a1 < (a0.size : Int) then ((abugidaref05_Class.f k (wrap64 (bt a0 a1))).bind fun t277 => (some t277)) else (none)) else (none)
theorem abugidaref06_class.mono : ∀ a0 a1 k, LeO (abugidaref06_class.f k a0 a1) (abugidaref06_class.f (k + 1) a0 a1) := by
  intro a0 a1 k
  unfold abugidaref06_class.f
  repeat' first
      | (with_reducible exact abugidaref05_Class.mono _ _)
      | (with_reducible exact LeO.refl _)
      | (with_reducible exact LeO.none _)
      | (with_reducible refine LeO.ite ?_ ?_)
      | (with_reducible refine LeO.bind ?_ (fun _ => ?_))
      | exact abugidaref05_Class.mono _ _
      | exact LeO.none _
      | refine LeO.ite ?_ ?_
      | refine LeO.bind ?_ (fun _ => ?_)
set_option maxHeartbeats 8000000 in
set_option maxRecDepth 100000 in
theorem abugidaref06_class.calls (k : Nat) (a0 : ByteArray) (a1 : Int) (r : Int) (w : World) (h : abugidaref06_class.f k a0 a1 = some r) :
    Calls Try.prog 42 #[.string a0, .int .i64 a1] w fun e w' => e = .returned (.int .i64 r) ∧ Drawn0 w w' := by
  have H : (if 0 ≤ a1 then (if a1 < (a0.size : Int) then ((abugidaref05_Class.f k (wrap64 (bt a0 a1))).bind fun t277 => (some t277)) else (none)) else (none)) = some r := h
  clear h
  by_cases c3 : 0 ≤ a1
  · rw [if_pos c3] at H
    have c3b0 : decide (0 ≤ a1) = true := decide_eq_true c3
    clear c3
    by_cases c4 : a1 < (a0.size : Int)
    · rw [if_pos c4] at H
      have c4b0 : decide (a1 < (a0.size : Int)) = true := decide_eq_true c4
      clear c4
      replace H := Option.bind_eq_some_iff.mp H
      obtain ⟨t277, A60, H⟩ := H
      replace H : (some t277) = some r := H
      have A6 := Aside0.mk A60
      clear A60
      obtain rfl := Option.some.inj H
      have p5 : 0 ≤ (a1 : Int) := of_decide_eq_true (by first | (with_reducible assumption) | assumption)
      have q5 : a1 < (a0.size : Int) := of_decide_eq_true (by first | (with_reducible assumption) | assumption)
      have hx5 := bt_at a0 a1
      replace p5 := eq_true p5
      replace q5 := eq_true q5
      go_enter Try.func42, Try.ntmps42
      go_wp2_with (first | ((with_reducible refine gate_callee (f := 34) rfl ?_); refine goesL_ (some 9) rfl rfl Try.func34 (by kernel_rfl) rfl #[.int .i64 (wrap64 (bt a0 a1))] rfl (by (try simp only [List.map_toArray, List.map_cons, List.map_nil]); first | done | rfl | (simp only [List.length_drop, List.length_take]; rfl)) ?_; (with_reducible refine (abugidaref05_Class.calls k (wrap64 (bt a0 a1)) t277 _ A6.out).mono ?_); rintro e w' ⟨rfl, ⟨nd, rfl⟩⟩; refine ⟨_, rfl, ?_⟩))
      go_ret
      exact ⟨by first | rfl | (simp; done) | (simp [*]; done), by repeat (first | exact Drawn0.refl _ | apply Drawn0.step)⟩
    · rw [if_neg c4] at H
      exact absurd H (by simp)
  · rw [if_neg c3] at H
    exact absurd H (by simp)

/-! ### abugidaref05_Extends: function 43 -/
def abugidaref05_Extends.f (k : Nat) (a0 : Int) : Option (Bool) := (abugidaref05_Class.f k a0).bind fun t278 => (if t278 = 6 then (some true) else (if t278 = 10 then (some true) else (if t278 = 11 then (some true) else (if t278 = 12 then (some true) else (if t278 = 13 then (some true) else (some (t278 == 14)))))))
theorem abugidaref05_Extends.mono : ∀ a0 k, LeO (abugidaref05_Extends.f k a0) (abugidaref05_Extends.f (k + 1) a0) := by
  intro a0 k
  unfold abugidaref05_Extends.f
  repeat' first
      | (with_reducible exact abugidaref05_Class.mono _ _)
      | (with_reducible exact LeO.refl _)
      | (with_reducible exact LeO.none _)
      | (with_reducible refine LeO.ite ?_ ?_)
      | (with_reducible refine LeO.bind ?_ (fun _ => ?_))
      | exact abugidaref05_Class.mono _ _
      | exact LeO.none _
      | refine LeO.ite ?_ ?_
      | refine LeO.bind ?_ (fun _ => ?_)
set_option maxHeartbeats 8000000 in
set_option maxRecDepth 100000 in
theorem abugidaref05_Extends.calls (k : Nat) (a0 : Int) (r : Bool) (w : World) (h : abugidaref05_Extends.f k a0 = some r) :
    Calls Try.prog 43 #[.int .i64 a0] w fun e w' => e = .returned (.bool r) ∧ Drawn0 w w' := by
  have H : ((abugidaref05_Class.f k a0).bind fun t278 => (if t278 = 6 then (some true) else (if t278 = 10 then (some true) else (if t278 = 11 then (some true) else (if t278 = 12 then (some true) else (if t278 = 13 then (some true) else (some (t278 == 14)))))))) = some r := h
  clear h
  replace H := Option.bind_eq_some_iff.mp H
  obtain ⟨t278, A20, H⟩ := H
  replace H : (if t278 = 6 then (some true) else (if t278 = 10 then (some true) else (if t278 = 11 then (some true) else (if t278 = 12 then (some true) else (if t278 = 13 then (some true) else (some (t278 == 14))))))) = some r := H
  have A2 := Aside0.mk A20
  clear A20
  by_cases c3 : t278 = 6
  · rw [if_pos c3] at H
    have c3b0 : (t278 == 6) = true := beq_iff_eq.mpr c3
    have c3b1 : (t278 != 6) = false := bne_eq_false_iff_eq.mpr c3
    clear c3
    obtain rfl := Option.some.inj H
    go_enter Try.func43, Try.ntmps43
    go_wp2_with (first | ((with_reducible refine gate_callee (f := 34) rfl ?_); refine goesL_ (some 5) rfl rfl Try.func34 (by kernel_rfl) rfl #[.int .i64 a0] rfl (by (try simp only [List.map_toArray, List.map_cons, List.map_nil]); first | done | rfl | (simp only [List.length_drop, List.length_take]; rfl)) ?_; (with_reducible refine (abugidaref05_Class.calls k a0 t278 _ A2.out).mono ?_); rintro e w' ⟨rfl, ⟨nd, rfl⟩⟩; refine ⟨_, rfl, ?_⟩))
    go_ret
    exact ⟨by first | rfl | (simp; done) | (simp [*]; done), by repeat (first | exact Drawn0.refl _ | apply Drawn0.step)⟩
  · rw [if_neg c3] at H
    have c3b0 : (t278 == 6) = false := beq_eq_false_iff_ne.mpr c3
    have c3b1 : (t278 != 6) = true := bne_iff_ne.mpr c3
    by_cases c4 : t278 = 10
    · rw [if_pos c4] at H
      have c4b0 : (t278 == 10) = true := beq_iff_eq.mpr c4
      have c4b1 : (t278 != 10) = false := bne_eq_false_iff_eq.mpr c4
      clear c4
      obtain rfl := Option.some.inj H
      go_enter Try.func43, Try.ntmps43
      go_wp2_with (first | ((with_reducible refine gate_callee (f := 34) rfl ?_); refine goesL_ (some 5) rfl rfl Try.func34 (by kernel_rfl) rfl #[.int .i64 a0] rfl (by (try simp only [List.map_toArray, List.map_cons, List.map_nil]); first | done | rfl | (simp only [List.length_drop, List.length_take]; rfl)) ?_; (with_reducible refine (abugidaref05_Class.calls k a0 t278 _ A2.out).mono ?_); rintro e w' ⟨rfl, ⟨nd, rfl⟩⟩; refine ⟨_, rfl, ?_⟩))
      go_ret
      exact ⟨by first | rfl | (simp; done) | (simp [*]; done), by repeat (first | exact Drawn0.refl _ | apply Drawn0.step)⟩
    · rw [if_neg c4] at H
      have c4b0 : (t278 == 10) = false := beq_eq_false_iff_ne.mpr c4
      have c4b1 : (t278 != 10) = true := bne_iff_ne.mpr c4
      by_cases c5 : t278 = 11
      · rw [if_pos c5] at H
        have c5b0 : (t278 == 11) = true := beq_iff_eq.mpr c5
        have c5b1 : (t278 != 11) = false := bne_eq_false_iff_eq.mpr c5
        clear c5
        obtain rfl := Option.some.inj H
        go_enter Try.func43, Try.ntmps43
        go_wp2_with (first | ((with_reducible refine gate_callee (f := 34) rfl ?_); refine goesL_ (some 5) rfl rfl Try.func34 (by kernel_rfl) rfl #[.int .i64 a0] rfl (by (try simp only [List.map_toArray, List.map_cons, List.map_nil]); first | done | rfl | (simp only [List.length_drop, List.length_take]; rfl)) ?_; (with_reducible refine (abugidaref05_Class.calls k a0 t278 _ A2.out).mono ?_); rintro e w' ⟨rfl, ⟨nd, rfl⟩⟩; refine ⟨_, rfl, ?_⟩))
        go_ret
        exact ⟨by first | rfl | (simp; done) | (simp [*]; done), by repeat (first | exact Drawn0.refl _ | apply Drawn0.step)⟩
      · rw [if_neg c5] at H
        have c5b0 : (t278 == 11) = false := beq_eq_false_iff_ne.mpr c5
        have c5b1 : (t278 != 11) = true := bne_iff_ne.mpr c5
        by_cases c6 : t278 = 12
        · rw [if_pos c6] at H
          have c6b0 : (t278 == 12) = true := beq_iff_eq.mpr c6
          have c6b1 : (t278 != 12) = false := bne_eq_false_iff_eq.mpr c6
          clear c6
          obtain rfl := Option.some.inj H
          go_enter Try.func43, Try.ntmps43
          go_wp2_with (first | ((with_reducible refine gate_callee (f := 34) rfl ?_); refine goesL_ (some 5) rfl rfl Try.func34 (by kernel_rfl) rfl #[.int .i64 a0] rfl (by (try simp only [List.map_toArray, List.map_cons, List.map_nil]); first | done | rfl | (simp only [List.length_drop, List.length_take]; rfl)) ?_; (with_reducible refine (abugidaref05_Class.calls k a0 t278 _ A2.out).mono ?_); rintro e w' ⟨rfl, ⟨nd, rfl⟩⟩; refine ⟨_, rfl, ?_⟩))
          go_ret
          exact ⟨by first | rfl | (simp; done) | (simp [*]; done), by repeat (first | exact Drawn0.refl _ | apply Drawn0.step)⟩
        · rw [if_neg c6] at H
          have c6b0 : (t278 == 12) = false := beq_eq_false_iff_ne.mpr c6
          have c6b1 : (t278 != 12) = true := bne_iff_ne.mpr c6
          by_cases c7 : t278 = 13
          · rw [if_pos c7] at H
            have c7b0 : (t278 == 13) = true := beq_iff_eq.mpr c7
            have c7b1 : (t278 != 13) = false := bne_eq_false_iff_eq.mpr c7
            clear c7
            obtain rfl := Option.some.inj H
            go_enter Try.func43, Try.ntmps43
            go_wp2_with (first | ((with_reducible refine gate_callee (f := 34) rfl ?_); refine goesL_ (some 5) rfl rfl Try.func34 (by kernel_rfl) rfl #[.int .i64 a0] rfl (by (try simp only [List.map_toArray, List.map_cons, List.map_nil]); first | done | rfl | (simp only [List.length_drop, List.length_take]; rfl)) ?_; (with_reducible refine (abugidaref05_Class.calls k a0 t278 _ A2.out).mono ?_); rintro e w' ⟨rfl, ⟨nd, rfl⟩⟩; refine ⟨_, rfl, ?_⟩))
            go_ret
            exact ⟨by first | rfl | (simp; done) | (simp [*]; done), by repeat (first | exact Drawn0.refl _ | apply Drawn0.step)⟩
          · rw [if_neg c7] at H
            have c7b0 : (t278 == 13) = false := beq_eq_false_iff_ne.mpr c7
            have c7b1 : (t278 != 13) = true := bne_iff_ne.mpr c7
            obtain rfl := Option.some.inj H
            go_enter Try.func43, Try.ntmps43
            go_wp2_with (first | ((with_reducible refine gate_callee (f := 34) rfl ?_); refine goesL_ (some 5) rfl rfl Try.func34 (by kernel_rfl) rfl #[.int .i64 a0] rfl (by (try simp only [List.map_toArray, List.map_cons, List.map_nil]); first | done | rfl | (simp only [List.length_drop, List.length_take]; rfl)) ?_; (with_reducible refine (abugidaref05_Class.calls k a0 t278 _ A2.out).mono ?_); rintro e w' ⟨rfl, ⟨nd, rfl⟩⟩; refine ⟨_, rfl, ?_⟩))
            go_ret
            exact ⟨by first | rfl | (simp; done) | (simp [*]; done), by repeat (first | exact Drawn0.refl _ | apply Drawn0.step)⟩

/-! ### abugidaref06_begins: function 36 -/
def abugidaref06_begins.j0 : Nat → ByteArray → Int → Bool → Option (Bool)
  | 0, _, _, _ => none
  | k + 1, x0, x1, x20 => if x20 = true then (some true) else (if 0 ≤ x1 then (if x1 < (x0.size : Int) then ((abugidaref05_Extends.f k (wrap64 (bt x0 x1))).bind fun t280 => (if t280 = true then (some false) else ((abugidaref06_class.f k x0 x1).bind fun t281 => (if t281 = 9 then ((abugidaref06_class.f k x0 (wrap64 (x1 - 1))).bind fun t282 => (some (!(t282 == 10)))) else (some (!false)))))) else (none)) else (none))
def abugidaref06_begins.f (k : Nat) (a0 : ByteArray) (a1 : Int) (a2 : Int) : Option (Bool) := if a1 = 0 then (abugidaref06_begins.j0 k a0 a1 true) else (if a2 = 6 then (abugidaref06_begins.j0 k a0 a1 true) else ((abugidaref06_class.f k a0 (wrap64 (a1 - 1))).bind fun t279 => (abugidaref06_begins.j0 k a0 a1 (t279 == 1))))
theorem abugidaref06_begins.mono_l : ∀ k, (∀ y0 y1 y2, LeO (abugidaref06_begins.j0 k y0 y1 y2) (abugidaref06_begins.j0 (k + 1) y0 y1 y2))
  | 0 => fun _ _ _ r h => by simp [abugidaref06_begins.j0] at h
  | k + 1 => by
    have ih0 := abugidaref06_begins.mono_l k
    · intro y0 y1 y2
      unfold abugidaref06_begins.j0
      repeat' first
      | (with_reducible exact ih0 _ _ _)
      | (with_reducible exact abugidaref05_Extends.mono _ _)
      | (with_reducible exact abugidaref06_class.mono _ _ _)
      | (with_reducible exact LeO.refl _)
      | (with_reducible exact LeO.none _)
      | (with_reducible refine LeO.ite ?_ ?_)
      | (with_reducible refine LeO.bind ?_ (fun _ => ?_))
      | exact ih0 _ _ _
      | exact abugidaref05_Extends.mono _ _
      | exact abugidaref06_class.mono _ _ _
      | exact LeO.none _
      | refine LeO.ite ?_ ?_
      | refine LeO.bind ?_ (fun _ => ?_)
theorem abugidaref06_begins.mono : ∀ a0 a1 a2 k, LeO (abugidaref06_begins.f k a0 a1 a2) (abugidaref06_begins.f (k + 1) a0 a1 a2) := by
  intro a0 a1 a2 k
  have ih0 := abugidaref06_begins.mono_l k
  unfold abugidaref06_begins.f
  repeat' first
      | (with_reducible exact ih0 _ _ _)
      | (with_reducible exact abugidaref05_Extends.mono _ _)
      | (with_reducible exact abugidaref06_class.mono _ _ _)
      | (with_reducible exact LeO.refl _)
      | (with_reducible exact LeO.none _)
      | (with_reducible refine LeO.ite ?_ ?_)
      | (with_reducible refine LeO.bind ?_ (fun _ => ?_))
      | exact ih0 _ _ _
      | exact abugidaref05_Extends.mono _ _
      | exact abugidaref06_class.mono _ _ _
      | exact LeO.none _
      | refine LeO.ite ?_ ?_
      | refine LeO.bind ?_ (fun _ => ?_)
set_option maxHeartbeats 8000000 in
set_option maxRecDepth 100000 in
theorem abugidaref06_begins.calls (k : Nat) (a0 : ByteArray) (a1 : Int) (a2 : Int) (r : Bool) (w : World) (h : abugidaref06_begins.f k a0 a1 a2 = some r) :
    Calls Try.prog 36 #[.string a0, .int .i64 a1, .int .i64 a2] w fun e w' => e = .returned (.bool r) ∧ Drawn0 w w' := by
  have H : (if a1 = 0 then (abugidaref06_begins.j0 k a0 a1 true) else (if a2 = 6 then (abugidaref06_begins.j0 k a0 a1 true) else ((abugidaref06_class.f k a0 (wrap64 (a1 - 1))).bind fun t279 => (abugidaref06_begins.j0 k a0 a1 (t279 == 1))))) = some r := h
  clear h
  have HC4 := Aside0.mk H
  clear H
  go_enter Try.func36, Try.ntmps36
  go_upto_region 1 with (fail)
  go_cut [20] (fun v20 wc => ∃ (kq : Nat) (x20_3 : Bool), v20 = .bool x20_3 ∧ Aside0 (abugidaref06_begins.j0 kq a0 a1 x20_3 = some r) ∧ Aside0 (kq ≤ k) ∧ Drawn0 w wc)
  case first =>
    have H := HC4.out
    clear HC4
    by_cases c5 : a1 = 0
    · rw [if_pos c5] at H
      have c5b0 : (a1 == 0) = true := beq_iff_eq.mpr c5
      have c5b1 : (a1 != 0) = false := bne_eq_false_iff_eq.mpr c5
      clear c5
      (first | rw [c5b0] | (simp only [i64_w, i32_w]; rw [c5b0]) | skip)
      have H' := Aside0.mk H
      clear H
      go_wp2
      go_meet
      case rel => exact ⟨_, (true), (by first | rfl | (simp; done) | (simp [*]; done)), H', ⟨by first | omega | exact Nat.le_refl _⟩, by repeat (first | exact Drawn0.refl _ | apply Drawn0.step)⟩
    · rw [if_neg c5] at H
      have c5b0 : (a1 == 0) = false := beq_eq_false_iff_ne.mpr c5
      have c5b1 : (a1 != 0) = true := bne_iff_ne.mpr c5
      (first | rw [c5b0] | (simp only [i64_w, i32_w]; rw [c5b0]) | skip)
      by_cases c6 : a2 = 6
      · rw [if_pos c6] at H
        have c6b0 : (a2 == 6) = true := beq_iff_eq.mpr c6
        have c6b1 : (a2 != 6) = false := bne_eq_false_iff_eq.mpr c6
        clear c6
        have H' := Aside0.mk H
        clear H
        go_wp2
        go_meet
        case rel => exact ⟨_, (true), (by first | rfl | (simp; done) | (simp [*]; done)), H', ⟨by first | omega | exact Nat.le_refl _⟩, by repeat (first | exact Drawn0.refl _ | apply Drawn0.step)⟩
      · rw [if_neg c6] at H
        have c6b0 : (a2 == 6) = false := beq_eq_false_iff_ne.mpr c6
        have c6b1 : (a2 != 6) = true := bne_iff_ne.mpr c6
        replace H := Option.bind_eq_some_iff.mp H
        obtain ⟨t279, A70, H⟩ := H
        replace H : (abugidaref06_begins.j0 k a0 a1 (t279 == 1)) = some r := H
        have A7 := Aside0.mk A70
        clear A70
        have H' := Aside0.mk H
        clear H
        go_wp2_with (first | (go_at_call 42; (with_reducible refine (abugidaref06_class.calls k a0 (wrap64 (a1 - 1)) t279 _ A7.out).mono ?_); rintro e w' ⟨rfl, ⟨nd, rfl⟩⟩))
        go_meet
        case rel => exact ⟨_, ((t279 == 1)), (by first | rfl | (simp; done) | (simp [*]; done)), H', ⟨by first | omega | exact Nat.le_refl _⟩, by repeat (first | exact Drawn0.refl _ | apply Drawn0.step)⟩
  case rest =>
    clear HC4
    try clear p2
    try clear c3
    try clear c5
    try clear c5b0
    try clear c5b1
    try clear c6
    try clear c6b0
    try clear c6b1
    try clear p6
    obtain ⟨kq, x20_3, rfl, HA, HJ3, ⟨mc3, rfl⟩⟩ := hcut
    cases kq with
    | zero => exact absurd HA.out (by simp [abugidaref06_begins.j0])
    | succ kj3 =>
      have H := HA.out
      clear HA
      simp only [abugidaref06_begins.j0] at H
      by_cases c8 : x20_3 = true
      · subst c8
        have H1 : (some true) = some r := by rw [if_pos rfl] at H; exact H
        clear H
        have H := H1
        clear H1
        obtain rfl := Option.some.inj H
        go_wp2
        go_ret
        exact ⟨by first | rfl | (simp; done) | (simp [*]; done), by repeat (first | exact Drawn0.refl _ | apply Drawn0.step)⟩
      · replace c8 := Bool.eq_false_iff.mpr c8
        subst c8
        have H1 : (if 0 ≤ a1 then (if a1 < (a0.size : Int) then ((abugidaref05_Extends.f kj3 (wrap64 (bt a0 a1))).bind fun t280 => (if t280 = true then (some false) else ((abugidaref06_class.f kj3 a0 a1).bind fun t281 => (if t281 = 9 then ((abugidaref06_class.f kj3 a0 (wrap64 (a1 - 1))).bind fun t282 => (some (!(t282 == 10)))) else (some (!false)))))) else (none)) else (none)) = some r := by rw [if_neg (show ¬ (false = true) by decide)] at H; exact H
        clear H
        have H := H1
        clear H1
        by_cases c9 : 0 ≤ a1
        · rw [if_pos c9] at H
          have c9b0 : decide (0 ≤ a1) = true := decide_eq_true c9
          clear c9
          by_cases c10 : a1 < (a0.size : Int)
          · rw [if_pos c10] at H
            have c10b0 : decide (a1 < (a0.size : Int)) = true := decide_eq_true c10
            clear c10
            replace H := Option.bind_eq_some_iff.mp H
            obtain ⟨t280, A120, H⟩ := H
            replace H : (if t280 = true then (some false) else ((abugidaref06_class.f kj3 a0 a1).bind fun t281 => (if t281 = 9 then ((abugidaref06_class.f kj3 a0 (wrap64 (a1 - 1))).bind fun t282 => (some (!(t282 == 10)))) else (some (!false))))) = some r := H
            have A12 := Aside0.mk A120
            clear A120
            by_cases c13 : t280 = true
            · subst c13
              have H1 : (some false) = some r := by rw [if_pos rfl] at H; exact H
              clear H
              have H := H1
              clear H1
              obtain rfl := Option.some.inj H
              have p11 : 0 ≤ (a1 : Int) := of_decide_eq_true (by first | (with_reducible assumption) | assumption)
              have q11 : a1 < (a0.size : Int) := of_decide_eq_true (by first | (with_reducible assumption) | assumption)
              have hx11 := bt_at a0 a1
              replace p11 := eq_true p11
              replace q11 := eq_true q11
              go_wp2_with (first | ((with_reducible refine gate_callee (f := 43) rfl ?_); refine goesL_ (some 25) rfl rfl Try.func43 (by kernel_rfl) rfl #[.int .i64 (wrap64 (bt a0 a1))] rfl (by (try simp only [List.map_toArray, List.map_cons, List.map_nil]); first | done | rfl | (simp only [List.length_drop, List.length_take]; rfl)) ?_; (with_reducible refine (abugidaref05_Extends.calls kj3 (wrap64 (bt a0 a1)) true _ A12.out).mono ?_); rintro e w' ⟨rfl, ⟨nd, rfl⟩⟩; refine ⟨_, rfl, ?_⟩))
              go_ret
              exact ⟨by first | rfl | (simp; done) | (simp [*]; done), by repeat (first | exact Drawn0.refl _ | apply Drawn0.step)⟩
            · replace c13 := Bool.eq_false_iff.mpr c13
              subst c13
              have H1 : ((abugidaref06_class.f kj3 a0 a1).bind fun t281 => (if t281 = 9 then ((abugidaref06_class.f kj3 a0 (wrap64 (a1 - 1))).bind fun t282 => (some (!(t282 == 10)))) else (some (!false)))) = some r := by rw [if_neg (show ¬ (false = true) by decide)] at H; exact H
              clear H
              have H := H1
              clear H1
              replace H := Option.bind_eq_some_iff.mp H
              obtain ⟨t281, A140, H⟩ := H
              replace H : (if t281 = 9 then ((abugidaref06_class.f kj3 a0 (wrap64 (a1 - 1))).bind fun t282 => (some (!(t282 == 10)))) else (some (!false))) = some r := H
              have A14 := Aside0.mk A140
              clear A140
              by_cases c15 : t281 = 9
              · rw [if_pos c15] at H
                have c15b0 : (t281 == 9) = true := beq_iff_eq.mpr c15
                have c15b1 : (t281 != 9) = false := bne_eq_false_iff_eq.mpr c15
                clear c15
                replace H := Option.bind_eq_some_iff.mp H
                obtain ⟨t282, A160, H⟩ := H
                replace H : (some (!(t282 == 10))) = some r := H
                have A16 := Aside0.mk A160
                clear A160
                obtain rfl := Option.some.inj H
                have p11 : 0 ≤ (a1 : Int) := of_decide_eq_true (by first | (with_reducible assumption) | assumption)
                have q11 : a1 < (a0.size : Int) := of_decide_eq_true (by first | (with_reducible assumption) | assumption)
                have hx11 := bt_at a0 a1
                replace p11 := eq_true p11
                replace q11 := eq_true q11
                go_wp2_with (first | ((with_reducible refine gate_callee (f := 43) rfl ?_); refine goesL_ (some 25) rfl rfl Try.func43 (by kernel_rfl) rfl #[.int .i64 (wrap64 (bt a0 a1))] rfl (by (try simp only [List.map_toArray, List.map_cons, List.map_nil]); first | done | rfl | (simp only [List.length_drop, List.length_take]; rfl)) ?_; (with_reducible refine (abugidaref05_Extends.calls kj3 (wrap64 (bt a0 a1)) false _ A12.out).mono ?_); rintro e w' ⟨rfl, ⟨nd, rfl⟩⟩; refine ⟨_, rfl, ?_⟩) | (go_at_call 42; (with_reducible refine (abugidaref06_class.calls kj3 a0 a1 t281 _ A14.out).mono ?_); rintro e w' ⟨rfl, ⟨nd, rfl⟩⟩) | (go_at_call 42; (with_reducible refine (abugidaref06_class.calls kj3 a0 (wrap64 (a1 - 1)) t282 _ A16.out).mono ?_); rintro e w' ⟨rfl, ⟨nd, rfl⟩⟩))
                go_ret
                exact ⟨by first | rfl | (simp; done) | (simp [*]; done), by repeat (first | exact Drawn0.refl _ | apply Drawn0.step)⟩
              · rw [if_neg c15] at H
                have c15b0 : (t281 == 9) = false := beq_eq_false_iff_ne.mpr c15
                have c15b1 : (t281 != 9) = true := bne_iff_ne.mpr c15
                obtain rfl := Option.some.inj H
                have p11 : 0 ≤ (a1 : Int) := of_decide_eq_true (by first | (with_reducible assumption) | assumption)
                have q11 : a1 < (a0.size : Int) := of_decide_eq_true (by first | (with_reducible assumption) | assumption)
                have hx11 := bt_at a0 a1
                replace p11 := eq_true p11
                replace q11 := eq_true q11
                go_wp2_with (first | ((with_reducible refine gate_callee (f := 43) rfl ?_); refine goesL_ (some 25) rfl rfl Try.func43 (by kernel_rfl) rfl #[.int .i64 (wrap64 (bt a0 a1))] rfl (by (try simp only [List.map_toArray, List.map_cons, List.map_nil]); first | done | rfl | (simp only [List.length_drop, List.length_take]; rfl)) ?_; (with_reducible refine (abugidaref05_Extends.calls kj3 (wrap64 (bt a0 a1)) false _ A12.out).mono ?_); rintro e w' ⟨rfl, ⟨nd, rfl⟩⟩; refine ⟨_, rfl, ?_⟩) | (go_at_call 42; (with_reducible refine (abugidaref06_class.calls kj3 a0 a1 t281 _ A14.out).mono ?_); rintro e w' ⟨rfl, ⟨nd, rfl⟩⟩))
                go_ret
                exact ⟨by first | rfl | (simp; done) | (simp [*]; done), by repeat (first | exact Drawn0.refl _ | apply Drawn0.step)⟩
          · rw [if_neg c10] at H
            exact absurd H (by simp)
        · rw [if_neg c9] at H
          exact absurd H (by simp)

/-! ### abugidaref06_Split: function 28 -/
def abugidaref06_Split.l0 : Nat → ByteArray → List (S29) → Int → Int → Option ((List (S29)))
  | 0, _, _, _, _ => none
  | k + 1, x0, x3, x4, x5 => if x5 < (x0.size : Int) then ((abugidaref06_begins.f k x0 x5 (wrap64 (x5 - x4))).bind fun t286 => (if t286 = true then (if x5 > 0 then (if x3.length < 8796093022208 then (abugidaref06_Split.l0 k x0 (x3 ++ [(⟨x4, x5⟩ : S29)]) x5 (wrap64 (x5 + 1))) else (none)) else (abugidaref06_Split.l0 k x0 x3 x5 (wrap64 (x5 + 1)))) else (abugidaref06_Split.l0 k x0 x3 x4 (wrap64 (x5 + 1))))) else (if (x0.size : Int) > 0 then (if x3.length < 8796093022208 then (some (x3 ++ [(⟨x4, (x0.size : Int)⟩ : S29)])) else (none)) else (some x3))
def abugidaref06_Split.f (k : Nat) (a0 : ByteArray) : Option ((List (S29))) := abugidaref06_Split.l0 k a0 ([] : List (S29)) 0 0
theorem abugidaref06_Split.mono_l : ∀ k, (∀ y0 y1 y2 y3, LeO (abugidaref06_Split.l0 k y0 y1 y2 y3) (abugidaref06_Split.l0 (k + 1) y0 y1 y2 y3))
  | 0 => fun _ _ _ _ r h => by simp [abugidaref06_Split.l0] at h
  | k + 1 => by
    have ih0 := abugidaref06_Split.mono_l k
    · intro y0 y1 y2 y3
      unfold abugidaref06_Split.l0
      repeat' first
      | (with_reducible exact ih0 _ _ _ _)
      | (with_reducible exact abugidaref06_begins.mono _ _ _ _)
      | (with_reducible exact LeO.refl _)
      | (with_reducible exact LeO.none _)
      | (with_reducible refine LeO.ite ?_ ?_)
      | (with_reducible refine LeO.bind ?_ (fun _ => ?_))
      | exact ih0 _ _ _ _
      | exact abugidaref06_begins.mono _ _ _ _
      | exact LeO.none _
      | refine LeO.ite ?_ ?_
      | refine LeO.bind ?_ (fun _ => ?_)
theorem abugidaref06_Split.mono : ∀ a0 k, LeO (abugidaref06_Split.f k a0) (abugidaref06_Split.f (k + 1) a0) := by
  intro a0 k
  have ih0 := abugidaref06_Split.mono_l k
  unfold abugidaref06_Split.f
  repeat' first
      | (with_reducible exact ih0 _ _ _ _)
      | (with_reducible exact abugidaref06_begins.mono _ _ _ _)
      | (with_reducible exact LeO.refl _)
      | (with_reducible exact LeO.none _)
      | (with_reducible refine LeO.ite ?_ ?_)
      | (with_reducible refine LeO.bind ?_ (fun _ => ?_))
      | exact ih0 _ _ _ _
      | exact abugidaref06_begins.mono _ _ _ _
      | exact LeO.none _
      | refine LeO.ite ?_ ?_
      | refine LeO.bind ?_ (fun _ => ?_)
set_option maxHeartbeats 8000000 in
set_option maxRecDepth 100000 in
theorem abugidaref06_Split.calls (k : Nat) (a0 : ByteArray) (r : List (S29)) (w : World) (h : abugidaref06_Split.f k a0 = some r) :
    Calls Try.prog 28 #[.string a0] w fun e w' => ∃ v0_ : Value, e = .returned (v0_) ∧ Kd.R k29 29 w' w.heap.size (fun _ => True) v0_ r ∧ Below w.heap.size w w' := by
  have hu29 := Try.underlying29
  have HB := Aside0.mk (Below.refl w.heap.size w)
  have H : (abugidaref06_Split.l0 k a0 ([] : List (S29)) 0 0) = some r := h
  clear h
  have H' := Aside0.mk H
  clear H
  go_enter Try.func28, Try.ntmps28
  go_wp2
  go_loopg [3, 4, 5] k (fun kq v3 v4 v5 w' => ∃ (x3_1 : List (S29)) (x4_1 : Int) (x5_1 : Int), v4 = .int .i64 x4_1 ∧ v5 = .int .i64 x5_1 ∧ Aside0 (abugidaref06_Split.l0 kq a0 x3_1 x4_1 x5_1 = some r) ∧ Aside0 (kq ≤ k) ∧ Aside0 (Kd.R k29 29 w' w.heap.size (fun _ => True) v3 x3_1) ∧ Aside0 (Below w.heap.size w w'))
  case atStart => exact ⟨(([] : List (S29))), (0), (0), (by first | rfl | (simp; done) | (simp [*]; done)), (by first | rfl | (simp; done) | (simp [*]; done)), H', ⟨Nat.le_refl _⟩, ⟨by first | exact Kd.R_nil _ _ _ _ _ | exact Kd.N_nil _ _ _ _ _ | exact Kd.V_nil _ _ _ _ _ | exact Kd.Q_nil _ _ _ _ _ | exact Kd.S_nil _ _ _ _ _⟩, ⟨by repeat (first | (with_reducible first | exact HB.out | apply below_alloc | apply pw_below_drewN | apply below_drew1) | exact HB.out)⟩⟩
  case round =>
    clear H'
    obtain ⟨x3_1, x4_1, x5_1, rfl, rfl, HA, HK1, HO_3, HB⟩ := hrel
    cases gk with
    | zero => exact absurd HA.out (by simp [abugidaref06_Split.l0])
    | succ k1 =>
      have H := HA.out
      clear HA
      simp only [abugidaref06_Split.l0] at H
      by_cases c2 : x5_1 < (a0.size : Int)
      · rw [if_pos c2] at H
        have c2b0 : decide (x5_1 < (a0.size : Int)) = true := decide_eq_true c2
        clear c2
        replace H := Option.bind_eq_some_iff.mp H
        obtain ⟨t286, A30, H⟩ := H
        replace H : (if t286 = true then (if x5_1 > 0 then (if x3_1.length < 8796093022208 then (abugidaref06_Split.l0 k1 a0 (x3_1 ++ [(⟨x4_1, x5_1⟩ : S29)]) x5_1 (wrap64 (x5_1 + 1))) else (none)) else (abugidaref06_Split.l0 k1 a0 x3_1 x5_1 (wrap64 (x5_1 + 1)))) else (abugidaref06_Split.l0 k1 a0 x3_1 x4_1 (wrap64 (x5_1 + 1)))) = some r := H
        have A3 := Aside0.mk A30
        clear A30
        by_cases c4 : t286 = true
        · subst c4
          have H1 : (if x5_1 > 0 then (if x3_1.length < 8796093022208 then (abugidaref06_Split.l0 k1 a0 (x3_1 ++ [(⟨x4_1, x5_1⟩ : S29)]) x5_1 (wrap64 (x5_1 + 1))) else (none)) else (abugidaref06_Split.l0 k1 a0 x3_1 x5_1 (wrap64 (x5_1 + 1)))) = some r := by rw [if_pos rfl] at H; exact H
          clear H
          have H := H1
          clear H1
          by_cases c5 : x5_1 > 0
          · rw [if_pos c5] at H
            have c5b0 : decide (0 < x5_1) = true := decide_eq_true c5
            clear c5
            by_cases c6 : x3_1.length < 8796093022208
            · rw [if_pos c6] at H
              have LMc6 := Aside0.mk c6
              clear c6
              obtain ⟨y287, hy287⟩ : ∃ y_ : List (S29), y_ = (x3_1 ++ [(⟨x4_1, x5_1⟩ : S29)]) := ⟨_, rfl⟩
              replace H : (abugidaref06_Split.l0 k1 a0 y287 x5_1 (wrap64 (x5_1 + 1))) = some r := by first | (rw [hy287]; with_reducible exact H) | (have H2_ := (Option.bind_some _ _).symm.trans H; rw [hy287]; with_reducible exact H2_) | (have H2_ := (Option.bind_some _ _).symm.trans H; with_reducible exact H2_) | with_reducible exact H | (rw [hy287]; exact H) | exact H
              have Ny287 := Aside0.mk hy287
              clear hy287
              have H' := Aside0.mk H
              clear H
              go_wp2_with (first | ((with_reducible refine gate_callee (f := 36) rfl ?_); refine goesL_ (some 18) rfl rfl Try.func36 (by kernel_rfl) rfl #[.string a0, .int .i64 x5_1, .int .i64 (wrap64 (x5_1 - x4_1))] rfl (by (try simp only [List.map_toArray, List.map_cons, List.map_nil]); first | done | rfl | (simp only [List.length_drop, List.length_take]; rfl)) ?_; (with_reducible refine (abugidaref06_begins.calls k1 a0 x5_1 (wrap64 (x5_1 - x4_1)) true _ A3.out).mono ?_); rintro e w' ⟨rfl, ⟨nd, rfl⟩⟩; refine ⟨_, rfl, ?_⟩) | ((with_reducible refine gate_builtin (b := .append) (xs := #[.tmp 23, .tmp 27]) rfl ?_); at_builtin; refine Kd.R_append k29 (w0 := w) w.heap.size rfl (.tmp 23) (.tmp 27) 30 29 (.agg #[(.int .i64 0), (.int .i64 0)]) 16 rfl Try.underlying30 info29 rfl (by decide) (by omega) u3 x3_1 (⟨x4_1, x5_1⟩ : S29) [.int .i64 x4_1, .int .i64 x5_1] (fun _ => True) (fun _ => False) rfl rfl ?aP (fun _ hk => hk.elim) ?aF ?aO ?aB ?aS ?aL ?_; (case aP => exact k29_mkM _ _ _ (⟨x4_1, x5_1⟩ : S29)); (case aB => exact (by repeat (first | (with_reducible first | exact HB.out | apply below_alloc | apply pw_below_drewN | apply below_drew1) | exact HB.out))); (case aF => exact (fun _ _ => trivial)); (case aO => exact (by (with_reducible repeat (first | apply Kd.R_alloc | apply Kd.R_drewN | apply Kd.R_drew)); exact HO_3.out)); (case aS => exact (below_size (by repeat (first | (with_reducible first | exact HB.out | apply below_alloc | apply pw_below_drewN | apply below_drew1) | exact HB.out)))); (case aL => have := LMc6.out; omega); intro v288 w7 ho hb hg hat; rw [← Ny287.out] at ho; have n0_ := Aside0.mk (hb); have n1_ := Aside0.mk (ho); clear HB; clear HO_3; have HB := n0_; have HO289 := n1_; clear n0_ n1_; clear ho hb hg hat))
              go_roundg k1
              case measure => have := HK1.out; omega
              case rel => exact ⟨(y287), (x5_1), (wrap64 (x5_1 + 1)), (by first | rfl | (simp; done) | (simp [*]; done)), (by first | rfl | (simp; done) | (simp [*]; done)), H', ⟨by have := HK1.out; omega⟩, ⟨by (with_reducible repeat (first | apply Kd.R_alloc | apply Kd.R_drewN | apply Kd.R_drew)); exact HO289.out⟩, ⟨by repeat (first | (with_reducible first | exact HB.out | apply below_alloc | apply pw_below_drewN | apply below_drew1) | exact HB.out)⟩⟩
            · rw [if_neg c6] at H
              exact absurd H (by simp)
          · rw [if_neg c5] at H
            have c5b0 : decide (0 < x5_1) = false := decide_eq_false c5
            clear c5
            have H' := Aside0.mk H
            clear H
            go_wp2_with (first | ((with_reducible refine gate_callee (f := 36) rfl ?_); refine goesL_ (some 18) rfl rfl Try.func36 (by kernel_rfl) rfl #[.string a0, .int .i64 x5_1, .int .i64 (wrap64 (x5_1 - x4_1))] rfl (by (try simp only [List.map_toArray, List.map_cons, List.map_nil]); first | done | rfl | (simp only [List.length_drop, List.length_take]; rfl)) ?_; (with_reducible refine (abugidaref06_begins.calls k1 a0 x5_1 (wrap64 (x5_1 - x4_1)) true _ A3.out).mono ?_); rintro e w' ⟨rfl, ⟨nd, rfl⟩⟩; refine ⟨_, rfl, ?_⟩))
            go_roundg k1
            case measure => have := HK1.out; omega
            case rel => exact ⟨(x3_1), (x5_1), (wrap64 (x5_1 + 1)), (by first | rfl | (simp; done) | (simp [*]; done)), (by first | rfl | (simp; done) | (simp [*]; done)), H', ⟨by have := HK1.out; omega⟩, ⟨by (with_reducible repeat (first | apply Kd.R_alloc | apply Kd.R_drewN | apply Kd.R_drew)); exact HO_3.out⟩, ⟨by repeat (first | (with_reducible first | exact HB.out | apply below_alloc | apply pw_below_drewN | apply below_drew1) | exact HB.out)⟩⟩
        · replace c4 := Bool.eq_false_iff.mpr c4
          subst c4
          have H1 : (abugidaref06_Split.l0 k1 a0 x3_1 x4_1 (wrap64 (x5_1 + 1))) = some r := by rw [if_neg (show ¬ (false = true) by decide)] at H; exact H
          clear H
          have H := H1
          clear H1
          have H' := Aside0.mk H
          clear H
          go_wp2_with (first | ((with_reducible refine gate_callee (f := 36) rfl ?_); refine goesL_ (some 18) rfl rfl Try.func36 (by kernel_rfl) rfl #[.string a0, .int .i64 x5_1, .int .i64 (wrap64 (x5_1 - x4_1))] rfl (by (try simp only [List.map_toArray, List.map_cons, List.map_nil]); first | done | rfl | (simp only [List.length_drop, List.length_take]; rfl)) ?_; (with_reducible refine (abugidaref06_begins.calls k1 a0 x5_1 (wrap64 (x5_1 - x4_1)) false _ A3.out).mono ?_); rintro e w' ⟨rfl, ⟨nd, rfl⟩⟩; refine ⟨_, rfl, ?_⟩))
          go_roundg k1
          case measure => have := HK1.out; omega
          case rel => exact ⟨(x3_1), (x4_1), (wrap64 (x5_1 + 1)), (by first | rfl | (simp; done) | (simp [*]; done)), (by first | rfl | (simp; done) | (simp [*]; done)), H', ⟨by have := HK1.out; omega⟩, ⟨by (with_reducible repeat (first | apply Kd.R_alloc | apply Kd.R_drewN | apply Kd.R_drew)); exact HO_3.out⟩, ⟨by repeat (first | (with_reducible first | exact HB.out | apply below_alloc | apply pw_below_drewN | apply below_drew1) | exact HB.out)⟩⟩
      · rw [if_neg c2] at H
        have c2b0 : decide (x5_1 < (a0.size : Int)) = false := decide_eq_false c2
        clear c2
        by_cases c8 : (a0.size : Int) > 0
        · rw [if_pos c8] at H
          have c8b0 : decide (0 < (a0.size : Int)) = true := decide_eq_true c8
          have c8b1 : decide (0 < a0.size) = true := decide_eq_true (by omega)
          clear c8
          by_cases c9 : x3_1.length < 8796093022208
          · rw [if_pos c9] at H
            have LMc9 := Aside0.mk c9
            clear c9
            obtain ⟨y283, hy283⟩ : ∃ y_ : List (S29), y_ = (x3_1 ++ [(⟨x4_1, (a0.size : Int)⟩ : S29)]) := ⟨_, rfl⟩
            replace H : (some y283) = some r := by first | (rw [hy283]; with_reducible exact H) | (have H2_ := (Option.bind_some _ _).symm.trans H; rw [hy283]; with_reducible exact H2_) | (have H2_ := (Option.bind_some _ _).symm.trans H; with_reducible exact H2_) | with_reducible exact H | (rw [hy283]; exact H) | exact H
            have Ny283 := Aside0.mk hy283
            clear hy283
            obtain rfl := Option.some.inj H
            go_wp2_with (first | ((with_reducible refine gate_builtin (b := .append) (xs := #[.tmp 33, .tmp 38]) rfl ?_); at_builtin; refine Kd.R_append k29 (w0 := w) w.heap.size rfl (.tmp 33) (.tmp 38) 30 29 (.agg #[(.int .i64 0), (.int .i64 0)]) 16 rfl Try.underlying30 info29 rfl (by decide) (by omega) u3 x3_1 (⟨x4_1, (a0.size : Int)⟩ : S29) [.int .i64 x4_1, .int .i64 (a0.size : Int)] (fun _ => True) (fun _ => False) rfl rfl ?aP (fun _ hk => hk.elim) ?aF ?aO ?aB ?aS ?aL ?_; (case aP => exact k29_mkM _ _ _ (⟨x4_1, (a0.size : Int)⟩ : S29)); (case aB => exact (by repeat (first | (with_reducible first | exact HB.out | apply below_alloc | apply pw_below_drewN | apply below_drew1) | exact HB.out))); (case aF => exact (fun _ _ => trivial)); (case aO => exact (by (with_reducible repeat (first | apply Kd.R_alloc | apply Kd.R_drewN | apply Kd.R_drew)); exact HO_3.out)); (case aS => exact (below_size (by repeat (first | (with_reducible first | exact HB.out | apply below_alloc | apply pw_below_drewN | apply below_drew1) | exact HB.out)))); (case aL => have := LMc9.out; omega); intro v284 w10 ho hb hg hat; rw [← Ny283.out] at ho; have n0_ := Aside0.mk (hb); have n1_ := Aside0.mk (ho); clear HB; clear HO_3; have HB := n0_; have HO285 := n1_; clear n0_ n1_; clear ho hb hg hat))
            go_ret
            exact ⟨_, by first | rfl | (simp [errW_none, errW_some] <;> rfl) | (simp [*, errW_none, errW_some] <;> rfl), by (with_reducible repeat (first | apply Kd.R_alloc | apply Kd.R_drewN | apply Kd.R_drew)); exact HO285.out, by repeat (first | (with_reducible first | exact HB.out | apply below_alloc | apply pw_below_drewN | apply below_drew1) | exact HB.out)⟩
          · rw [if_neg c9] at H
            exact absurd H (by simp)
        · rw [if_neg c8] at H
          have c8b0 : decide (0 < (a0.size : Int)) = false := decide_eq_false c8
          have c8b1 : decide (0 < a0.size) = false := decide_eq_false (by omega)
          clear c8
          obtain rfl := Option.some.inj H
          go_wp2
          go_ret
          exact ⟨_, by first | rfl | (simp [errW_none, errW_some] <;> rfl) | (simp [*, errW_none, errW_some] <;> rfl), by (with_reducible repeat (first | apply Kd.R_alloc | apply Kd.R_drewN | apply Kd.R_drew)); exact HO_3.out, by repeat (first | (with_reducible first | exact HB.out | apply below_alloc | apply pw_below_drewN | apply below_drew1) | exact HB.out)⟩

end Go.Proofs.Ytgpdieogkcnfeaa.Q

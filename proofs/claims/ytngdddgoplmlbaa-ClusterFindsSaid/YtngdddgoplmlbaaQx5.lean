-- Written by wip/tools/myprint.py, a program of this session that drives the kit's print.py; not a text of print.sh.
import Derived.Test.YtngdddgoplmlbaaQx0
import Derived.Test.YtngdddgoplmlbaaQx3
import Derived.RangeFuncBox
import Derived.Lib.Hide
namespace Go.Proofs.Ytngdddgoplmlbaa.Q
open Go.RowKit Go.Proofs.YtngdddgoplmlbaaW.PrintWords Go.Proofs.YtngdddgoplmlbaaW.PrintLast Go.Proofs.YtngdddgoplmlbaaW.PrintMore
attribute [local go_sem] max2_int min2_int max_two min_two max_three min_three max_four min_four   -- for this text's walks alone
set_option linter.unusedVariables false
set_option linter.unusedSimpArgs false

/-! ### cluster_At: function 15 (by hand) -/


/-- The first span that ends behind i. -/
def hfind (i : Int) : List S30 → Nat
  | [] => 0
  | s :: t => if s.f1 > i then 0 else hfind i t + 1
theorem hfind_is (i : Int) : ∀ (l : List S30) (r : Nat), r ≤ l.length → (∀ k, k < r → (l.getD k z30).f1 ≤ i) → (r < l.length → i < (l.getD r z30).f1) → hfind i l = r
  | [], r, h, _, _ => by simp at h; simp [hfind, h]
  | s :: t, 0, _, _, h2 => by have := h2 (by simp); simp at this; simp [hfind, this]
  | s :: t, r + 1, h, h1, h2 => by
    have h0 := h1 0 (by omega)
    simp only [List.getD_cons_zero] at h0
    unfold hfind
    rw [if_neg (by omega), hfind_is i t r (by simpa using h) (fun k hk => by have := h1 (k + 1) (by omega); simpa using this) (fun hr => by have := h2 (by simpa using hr); simpa using this)]

theorem hstarts_range (s : ByteArray) : ∀ d i frm x, x ∈ hstarts s d i frm → i ≤ x ∧ x < i + d
  | 0, _, _, _, h => by simp [hstarts] at h
  | d + 1, i, frm, x, h => by
    unfold hstarts at h
    split at h
    · rcases List.mem_cons.mp h with rfl | h
      · omega
      · have := hstarts_range s d (i + 1) i x h; omega
    · have := hstarts_range s d (i + 1) frm x h; omega
theorem hstarts_sorted (s : ByteArray) : ∀ d i frm, (hstarts s d i frm).Pairwise (· < ·)
  | 0, _, _ => List.Pairwise.nil
  | d + 1, i, frm => by
    unfold hstarts
    split
    · refine List.pairwise_cons.mpr ⟨fun x hx => ?_, hstarts_sorted s d (i + 1) i⟩
      have := hstarts_range s d (i + 1) i x hx; omega
    · exact hstarts_sorted s d (i + 1) frm
theorem hspans_mem (N : Int) : ∀ (l : List Nat) (a : Nat), (∀ x ∈ l, a < x) → (∀ x ∈ l, (x : Int) ≤ N) → ∀ y ∈ hspans N l, (a : Int) < y.f1 ∨ y.f1 = N
  | [], _, _, _, y, h => by simp [hspans] at h
  | [b], a, _, _, y, h => by simp [hspans] at h; subst h; exact .inr rfl
  | b :: c :: t, a, h1, h2, y, h => by
    unfold hspans at h
    rcases List.mem_cons.mp h with rfl | h
    · exact .inl (by have := h1 c (by simp); simp; omega)
    · exact hspans_mem N (c :: t) a (fun x hx => h1 x (List.mem_cons_of_mem _ hx)) (fun x hx => h2 x (List.mem_cons_of_mem _ hx)) y h
theorem hspans_mono (N : Int) : ∀ (l : List Nat), l.Pairwise (· < ·) → (∀ x ∈ l, (x : Int) ≤ N) → (hspans N l).Pairwise (fun a b => a.f1 ≤ b.f1)
  | [], _, _ => List.Pairwise.nil
  | [b], _, _ => by simp [hspans]
  | b :: c :: t, h, h2 => by
    unfold hspans
    have hc := List.pairwise_cons.mp h
    have hd := List.pairwise_cons.mp hc.2
    refine List.pairwise_cons.mpr ⟨fun y hy => ?_, hspans_mono N (c :: t) hc.2 (fun x hx => h2 x (List.mem_cons_of_mem _ hx))⟩
    have hN := h2 c (by simp)
    cases t with
    | nil => simp [hspans] at hy; subst hy; exact hN
    | cons d t =>
      unfold hspans at hy
      rcases List.mem_cons.mp hy with rfl | hy
      · have := hd.1 d (by simp); simp; omega
      · rcases hspans_mem N (d :: t) c hd.1 (fun x hx => h2 x (List.mem_cons_of_mem _ (List.mem_cons_of_mem _ hx))) y hy with h | h
        · show (c : Int) ≤ _; omega
        · show (c : Int) ≤ _; omega

theorem cluster_At1.calls (l : List S30) (k : Int) (h0 : 0 ≤ k) (h1 : k < (l.length : Int)) (i : Int) (A : Option Addr) (c : Nat) (B1 B2 : Nat) (w : World) (hC : Kd.C k30 w A l.length l) (hc1 : w.cell? ⟨B1, 0, none⟩ = some (.slice A l.length c)) (hc2 : w.cell? ⟨B2, 0, none⟩ = some (.int .i64 i)) :
    Calls Try.prog 25 #[.int .i64 k, .pointer (some ⟨B1, 0, none⟩), .pointer (some ⟨B2, 0, none⟩)] w fun e w' => e = .returned (.bool (decide (i < (rd_T30 l k).f1))) ∧ Below w.heap.size w w' := by
  obtain ⟨ad, rfl, hx0, hx1⟩ := at_T30 hC k h0 h1
  have p : (0 ≤ k) = True := eq_true h0
  have q : (k < (l.length : Int)) = True := eq_true h1
  have hu30 := Try.underlying30
  clear h0 h1 hC
  go_enter Try.func25, Try.ntmps25
  go_wp2
  go_quiet (fail)
  all_goals go_wp2
  go_ret
  exact ⟨rfl, pw_below_drewN (Below.refl _ _) _⟩

theorem sort_Search.calls1 (l : List S30) (hl : l.length ≤ 8796093022207) (hm : ∀ a b : Nat, a ≤ b → b < l.length → (l.getD a z30).f1 ≤ (l.getD b z30).f1) (i : Int) (A : Option Addr) (c : Nat) (B1 B2 : Nat) (w : World) (hC : Kd.C k30 w A l.length l)
    (hc1 : w.cell? ⟨B1, 0, none⟩ = some (.slice A l.length c)) (hc2 : w.cell? ⟨B2, 0, none⟩ = some (.int .i64 i)) :
    Calls Try.prog 24 #[.int .i64 (l.length : Int), .func (.func 25) #[] #[.pointer (some ⟨B1, 0, none⟩), .pointer (some ⟨B2, 0, none⟩)]] w fun e w' => e = .returned (.int .i64 (hfind i l : Int)) ∧ Below w.heap.size w w' := by
  have hfi := Lib.hid (hfind_is i l)
  have hmm := Lib.hid hm
  clear hm
  go_enter Try.func24, Try.ntmps24
  go_wp2
  go_loopw [5, 6] (fun v5 v6 wr => ∃ lo hi : Nat, v5 = .int .i64 lo ∧ v6 = .int .i64 hi ∧ lo ≤ hi ∧ hi ≤ l.length ∧ Hid (∀ k, k < lo → (l.getD k z30).f1 ≤ i) ∧ Hid (∀ k, hi ≤ k → k < l.length → i < (l.getD k z30).f1) ∧ Aside0 (Below w.heap.size w wr))
    (fun v5 v6 _ => (intOf v6).toNat - (intOf v5).toNat)
  case atStart =>
    exact ⟨0, l.length, rfl, rfl, Nat.zero_le _, Nat.le_refl _, Lib.hid (fun k hk => absurd hk (Nat.not_lt_zero _)), Lib.hid (fun k h1 h2 => absurd h2 (by omega)), ⟨Below.refl _ _⟩⟩
  case round =>
    obtain ⟨lo, hi, rfl, rfl, hle, hhi, hlo, hup, HB⟩ := hrel
    have hC' := Aside0.mk (Kd.C_below hC HB.out)
    have hc1' := pw_cell_below HB.out hc1
    have hc2' := pw_cell_below HB.out hc2
    by_cases hlt : lo < hi
    · obtain ⟨m, hm⟩ : ∃ m : Nat, m = (lo + hi) / 2 := ⟨_, rfl⟩
      have hm1 : lo ≤ m := by omega
      have hm2 : m < hi := by omega
      have hrd : rd_T30 l (((lo : Int) + hi) / 2) = l.getD m z30 := by
        unfold rd_T30
        rw [show (((lo : Int) + hi) / 2).toNat = m by omega]
      by_cases ht : i < (l.getD m z30).f1
      · have hd : Aside0 (decide (i < (rd_T30 l (((lo : Int) + hi) / 2)).f1) = true) := ⟨by rw [hrd]; exact decide_eq_true ht⟩
        have ht' := Lib.hid ht
        have hm' := Lib.hid hm
        clear hrd ht hm
        go_wp2_with (go_at_call 25; refine (cluster_At1.calls l _ (by omega) (by omega) i A c B1 B2 _ hC'.out hc1' hc2').mono ?_; rintro e w3 ⟨he, hb⟩; rw [hd.out] at he; subst he; have HB3 := Aside0.mk (below_then HB.out HB.out.size hb))
        go_roundw
        case rel => exact ⟨lo, m, rfl, congrArg (Value.int .i64) (by have := hm'.out; omega), hm1, by omega, hlo, Lib.hid (fun k h1 h2 => Int.lt_of_lt_of_le ht'.out (hmm.out m k h1 h2)), HB3⟩
        case measure => simp only [intOf]; omega
      · have hd : Aside0 (decide (i < (rd_T30 l (((lo : Int) + hi) / 2)).f1) = false) := ⟨by rw [hrd]; exact decide_eq_false ht⟩
        have ht' := Lib.hid ht
        have hm' := Lib.hid hm
        clear hrd ht hm
        go_wp2_with (go_at_call 25; refine (cluster_At1.calls l _ (by omega) (by omega) i A c B1 B2 _ hC'.out hc1' hc2').mono ?_; rintro e w3 ⟨he, hb⟩; rw [hd.out] at he; subst he; have HB3 := Aside0.mk (below_then HB.out HB.out.size hb))
        go_roundw
        case rel => exact ⟨m + 1, hi, congrArg (Value.int .i64) (by have := hm'.out; omega), rfl, by omega, hhi, Lib.hid (fun k h => Int.le_trans (hmm.out k m (by omega) (by omega)) ht'.out), hup, HB3⟩
        case measure => simp only [intOf]; omega
    · have e : lo = hi := by omega
      subst e
      have hr := hfi.out lo hhi hlo.out (fun h => hup.out lo (Nat.le_refl _) h)
      have hr := Lib.hid hr
      clear hfi
      go_wp2
      go_ret
      exact ⟨by first | rfl | (rw [hr.out]; rfl), HB.out⟩

def cluster_At.f (a0 : ByteArray) (a1 : Int) : Option (Int) := if a1 < 0 then some (-1) else (if a1 ≥ (a0.size : Int) then some (-1) else (cluster_Split.f a0).bind fun l => some ((hfind a1 l : Nat) : Int))

theorem cluster_Split.mono_f1 (a0 : ByteArray) (l : List S30) (h : cluster_Split.f a0 = some l) : l.length ≤ 8796093022207 ∧ ∀ a b : Nat, a ≤ b → b < l.length → (l.getD a z30).f1 ≤ (l.getD b z30).f1 := by
  unfold cluster_Split.f at h
  split at h
  · rename_i hs
    obtain rfl := Option.some.inj h
    refine ⟨by rw [hspans_length]; exact Nat.le_trans (hstarts_length _ _ _ _) hs, fun a b hab hb => ?_⟩
    rw [List.getD_eq_getElem?_getD, List.getElem?_eq_getElem (by omega), List.getD_eq_getElem?_getD, List.getElem?_eq_getElem hb]
    rcases Nat.lt_or_ge a b with h | h
    · exact List.pairwise_iff_getElem.mp (hspans_mono a0.size _ (hstarts_sorted _ _ _ _) (fun x hx => by have := hstarts_range _ _ _ _ x hx; omega)) a b (by omega) hb h
    · obtain rfl : a = b := by omega
      exact Int.le_refl _
  · cases h

set_option maxHeartbeats 1000000 in
theorem cluster_At.calls (a0 : ByteArray) (a1 : Int) (r : Int) (w : World) (h : cluster_At.f a0 a1 = some r) :
    Calls Try.prog 15 #[.string a0, .int .i64 a1] w fun e w' => e = .returned (.int .i64 r) ∧ Below w.heap.size w w' := by
  unfold cluster_At.f at h
  by_cases c1 : a1 < 0
  · rw [if_pos c1] at h
    obtain rfl := Option.some.inj h
    have c1b : decide (a1 < 0) = true := decide_eq_true c1
    clear c1 h
    go_enter Try.func15, Try.ntmps15
    go_wp2
    go_ret
    exact ⟨rfl, (Below.refl _ _).alloc (Nat.le_refl _) _⟩
  · rw [if_neg c1] at h
    have c1b : decide (a1 < 0) = false := decide_eq_false c1
    by_cases c2 : a1 ≥ (a0.size : Int)
    · rw [if_pos c2] at h
      obtain rfl := Option.some.inj h
      have c2b : decide ((a0.size : Int) ≤ a1) = true := decide_eq_true c2
      clear c1 c2 h
      go_enter Try.func15, Try.ntmps15
      go_wp2
      go_ret
      exact ⟨rfl, (Below.refl _ _).alloc (Nat.le_refl _) _⟩
    · rw [if_neg c2] at h
      have c2b : decide ((a0.size : Int) ≤ a1) = false := decide_eq_false c2
      obtain ⟨l, hl, hr⟩ := Option.bind_eq_some_iff.mp h
      obtain rfl := Option.some.inj hr
      have hmo := Aside0.mk (cluster_Split.mono_f1 a0 l hl)
      have HL := Aside0.mk hl
      clear c1 c2 h hr hl
      go_enter Try.func15, Try.ntmps15
      go_wp2_with (first | (go_at_call 13; refine (cluster_Split.calls a0 l _ HL.out).mono ?_; rintro e w3 ⟨v, rfl, hR, hb⟩; obtain ⟨A, c, rfl, hlc, hC⟩ := Kd.R_reads hR; have HC := Aside0.mk hC; have HB3 := Aside0.mk hb; have hi3 : w3.cell? ⟨w.heap.size, 0, none⟩ = some (.int .i64 a1) := pw_cell_below hb (Boxed.new w 3 (.int .i64 a1)).cell; clear hR hC hb) | (go_at_call 24; refine (sort_Search.calls1 l hmo.out.1 hmo.out.2 a1 A c w3.heap.size w.heap.size _ (Kd.C_below HC.out (below_alloc (Below.refl _ _) _)) (Boxed.new w3 26 _).cell (pw_cell_below (below_alloc (Below.refl _ _) _) hi3)).mono ?_; rintro e w5 ⟨rfl, hb5⟩))
      go_ret
      have hb1 := below_then (below_alloc (Below.refl w.heap.size w) _) (by simp) HB3.out
      exact ⟨rfl, below_then (below_alloc hb1 _) (below_alloc hb1 _).size hb5⟩



end Go.Proofs.Ytngdddgoplmlbaa.Q

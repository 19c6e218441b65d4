/- OrderVisual: the walk of the law by hand. -/
import Derived.Test.YtacnckneiklgpaaQx23
import Derived.Test.YtacnckneiklgpaaKn
import Derived.Test.YtacnckneiklgpaaKs
import Derived.Test.YtacnckneiklgpaaQx18
import Derived.Test.YtacnckneiklgpaaQx14
import Derived.Test.YtacnckneiklgpaaRd
namespace Go.Proofs.Ytacnckneiklgpaa.Plain
open Go.RowKit Go.Proofs.Ytacnckneiklgpaa.Q Go.Proofs.YtacnckneiklgpaaW.PrintWords Go.Proofs.YtacnckneiklgpaaW.PrintLast
set_option linter.unusedVariables false
set_option linter.unusedSimpArgs false
namespace Vr
theorem rdN (l : List Int) (i : Nat) : rd l (i : Int) = l.getD i 0 := by
  unfold rd
  rw [Int.toNat_natCast]
theorem dropC (ks : List Int) (off : Nat) (h : off < ks.length) : ks.drop off = ks.getD off 0 :: ks.drop (off + 1) := by
  rw [List.drop_eq_getElem_cons h, List.getD_eq_getElem?_getD, List.getElem?_eq_getElem h]
  rfl
theorem skipC (f : Int → Bool) (off : Nat) (x : Int) (r o : List Int) (hx : f x = false) : (pcs f off (x :: r)).foldl revP o = (pcs f (off + 1) r).foldl revP o := by
  rw [pcs]
  cases h : pcs f (off + 1) r with
  | nil => simp [revP, hx]
  | cons p ps =>
    dsimp only
    split
    · rename_i hp
      rw [List.foldl_cons, List.foldl_cons]
      simp [revP, hx, hp]
    · simp [revP, hx]
theorem rev_drop (o : List Int) (i e : Nat) (h1 : i ≤ e) (h2 : e ≤ o.length) : (revR o i e).drop e = o.drop e := by
  have hl : (o.take i ++ ((o.take e).drop i).reverse).length = e := by
    rw [List.length_append, List.length_take, List.length_reverse, List.length_drop, List.length_take]; omega
  unfold revR
  rw [List.drop_append, hl, Nat.sub_self, List.drop_zero, List.drop_of_length_le (by omega), List.nil_append]
theorem rev_same (o : List Int) (i : Nat) : revR o i i = o := by
  unfold revR
  rw [List.drop_of_length_le (by rw [List.length_take]; omega), List.reverse_nil, List.append_nil, List.take_append_drop]
theorem ev_l4 (l o : List Int) (m : Int) (i e : Nat) (hie : i ≤ e) (he : e ≤ o.length) (ho : o.length ≤ 1000) (R : List Int)
    (hc : Ev (fun k => abugidaref07_Visual.l2 k l (revR o i e) m (((if i < e then e else i + 1) : Nat) : Int)) R) : ∀ (d p : Nat) (ys : List Int), e - i ≤ p + p + 1 + d → p ≤ e - i → Swp o i (e - i) p ys →
    Ev (fun k => abugidaref07_Visual.l4 k l ys m (i : Int) (e : Int) ((i + p : Nat) : Int) ((e : Int) - 1 - (p : Int))) R := by
  have fin : ∀ (p : Nat) (ys : List Int), e - i ≤ p + p + 1 → p ≤ e - i → Swp o i (e - i) p ys → Ev (fun k => abugidaref07_Visual.l4 k l ys m (i : Int) (e : Int) ((i + p : Nat) : Int) ((e : Int) - 1 - (p : Int))) R := fun p ys h hp hS => by
    obtain rfl := hS.done hie he h
    have q : ¬ ((i + p : Nat) : Int) < (e : Int) - 1 - (p : Int) := by omega
    by_cases hlt : i < e
    · rw [if_pos hlt] at hc
      have q2 : (e : Int) > (i : Int) := by omega
      have hw : wrap64 (wrap64 ((e : Int) - 1) + 1) = (e : Int) := by
        rw [w64 ((e : Int) - 1) (by omega) (by omega), w64 _ (by omega) (by omega)]; omega
      refine Ev.step (fun k => by rw [abugidaref07_Visual.l4, if_neg q, if_pos q2, hw]) ?_
      exact hc
    · rw [if_neg hlt] at hc
      have q2 : ¬ (e : Int) > (i : Int) := by omega
      have hw : wrap64 ((i : Int) + 1) = ((i + 1 : Nat) : Int) := by rw [w64 _ (by omega) (by omega)]; omega
      refine Ev.step (fun k => by rw [abugidaref07_Visual.l4, if_neg q, if_neg q2, hw]) ?_
      exact hc
  intro d
  induction d with
  | zero => intro p ys h hp hS; exact fin p ys h hp hS
  | succ d ih =>
    intro p ys h hp hS
    by_cases hlt : p + p + 1 < e - i
    · have h2 := ih (p + 1) _ (by omega) (by omega) (hS.step (by omega) hlt)
      have hyl := hS.1
      have q : ((i + p : Nat) : Int) < (e : Int) - 1 - (p : Int) := by omega
      have q1 : (0 : Int) ≤ (e : Int) - 1 - (p : Int) := by omega
      have q2 : (e : Int) - 1 - (p : Int) < (ys.length : Int) := by omega
      have q3 : (0 : Int) ≤ ((i + p : Nat) : Int) := by omega
      have q4 : ((i + p : Nat) : Int) < (ys.length : Int) := by omega
      have t1 : ((e : Int) - 1 - (p : Int)) = ((i + (e - i - 1 - p) : Nat) : Int) := by omega
      have hw1 : wrap64 (((i + p : Nat) : Int) + 1) = ((i + (p + 1) : Nat) : Int) := by rw [w64 _ (by omega) (by omega)]; omega
      have hw2 : wrap64 ((e : Int) - 1 - (p : Int) - 1) = (e : Int) - 1 - ((p + 1 : Nat) : Int) := by rw [w64 _ (by omega) (by omega)]; omega
      refine Ev.step (fun k => by rw [abugidaref07_Visual.l4, if_pos q, if_pos q1, if_pos q2, if_pos q3, if_pos q4, hw1, hw2, t1, rdN, rdN, Int.toNat_natCast, Int.toNat_natCast]) ?_
      exact h2
    · exact fin p ys (by omega) hp hS
theorem ev_l3 (l o : List Int) (m : Int) (i : Nat) (ho : o.length ≤ 1000) (hm : ∀ x ∈ o, 0 ≤ x ∧ x < (l.length : Int)) (R : List Int) : ∀ (d e : Nat), e + d = o.length →
    Ev (fun k => abugidaref07_Visual.j4 k l o m (i : Int) ((e + runLen (geP l m) true (o.drop e) : Nat) : Int)) R →
    Ev (fun k => abugidaref07_Visual.l3 k l o m (i : Int) (e : Int)) R := by
  intro d
  induction d with
  | zero =>
    intro e h hc
    rw [List.drop_of_length_le (by omega)] at hc
    refine Ev.step (fun k => by rw [abugidaref07_Visual.l3, if_neg (by omega)]) ?_
    exact hc
  | succ d ih =>
    intro e h hc
    have h2 := ih (e + 1) (by omega)
    rw [dropC o e (by omega), runLen] at hc
    have hx := hm (o.getD e 0) (by
      rw [List.getD_eq_getElem?_getD, List.getElem?_eq_getElem (show e < o.length by omega)]
      exact List.getElem_mem _)
    have c0 : (e : Int) < (o.length : Int) := by omega
    have c1 : (0 : Int) ≤ (e : Int) := by omega
    have hw : wrap64 ((e : Int) + 1) = ((e + 1 : Nat) : Int) := by rw [w64 _ (by omega) (by omega)]; omega
    have hr := rdN o e
    generalize o.getD e 0 = x at *
    by_cases hd : rd l x ≥ m
    · rw [if_pos (show geP l m x = true from decide_eq_true hd)] at hc
      refine Ev.step (fun k => by rw [abugidaref07_Visual.l3, if_pos c0, if_pos c1, hr, if_pos hx.1, if_pos hx.2, if_pos hd, hw]) ?_
      refine h2 ?_
      rw [show e + 1 + runLen (geP l m) true (o.drop (e + 1)) = e + (runLen (geP l m) true (o.drop (e + 1)) + 1) by omega]
      exact hc
    · rw [if_neg (show ¬ geP l m x = true by simpa [geP] using hd)] at hc
      refine Ev.step (fun k => by rw [abugidaref07_Visual.l3, if_pos c0, if_pos c1, hr, if_pos hx.1, if_pos hx.2, if_neg hd]) ?_
      exact hc
theorem ev_l2 (l : List Int) (m : Int) (hm0 : 1 ≤ m) (hm9 : m ≤ 9) (R : List Int) : ∀ (d i : Nat) (o : List Int), o.length ≤ i + d → i ≤ o.length → o.length ≤ 1000 → (∀ x ∈ o, 0 ≤ x ∧ x < (l.length : Int)) →
    Ev (fun k => abugidaref07_Visual.l1 k l ((pcs (geP l m) i (o.drop i)).foldl revP o) (m - 1)) R →
    Ev (fun k => abugidaref07_Visual.l2 k l o m (i : Int)) R := by
  intro d
  induction d with
  | zero =>
    intro i o h hi ho hm hc
    rw [List.drop_of_length_le (by omega)] at hc
    refine Ev.step (fun k => by rw [abugidaref07_Visual.l2, if_neg (by omega), w64 (m - 1) (by omega) (by omega)]) ?_
    exact hc
  | succ d ih =>
    intro i o h hi ho hm hc
    by_cases hend : i < o.length
    · have c0 : (i : Int) < (o.length : Int) := by omega
      refine Ev.step (fun k => by rw [abugidaref07_Visual.l2, if_pos c0]) ?_
      refine ev_l3 l o m i ho hm R (o.length - i) i (by omega) ?_
      rw [dropC o i hend] at hc ⊢
      cases hx : geP l m (o.getD i 0) with
      | false =>
        rw [runLen, if_neg (by rw [hx]; decide), Nat.add_zero]
        rw [skipC _ _ _ _ _ hx] at hc
        have hw : wrap64 ((i : Int) - 1) = (i : Int) - 1 - ((0 : Nat) : Int) := by rw [w64 _ (by omega) (by omega)]; omega
        refine Ev.step (fun k => by rw [abugidaref07_Visual.j4, hw]) ?_
        refine ev_l4 l o m i i (Nat.le_refl _) hi ho R ?_ 0 0 o (by omega) (by omega) (Swp.start _ _ _)
        rw [if_neg (Nat.lt_irrefl _), rev_same]
        exact ih (i + 1) o (by omega) (by omega) ho hm hc
      | true =>
        rw [runLen, if_pos hx]
        rw [pcs_step, List.drop_drop, hx] at hc
        have hl := runLen_le (geP l m) true (o.drop (i + 1))
        rw [List.length_drop] at hl
        generalize hmm : runLen (geP l m) true (o.drop (i + 1)) = r at *
        rw [show i + (r + 1) = i + 1 + r by omega]
        generalize he : i + 1 + r = e at *
        rw [List.foldl_cons, revP, if_pos rfl] at hc
        dsimp only at hc
        have hw : wrap64 ((e : Int) - 1) = (e : Int) - 1 - ((0 : Nat) : Int) := by rw [w64 _ (by omega) (by omega)]; omega
        refine Ev.step (fun k => by rw [abugidaref07_Visual.j4, hw]) ?_
        refine ev_l4 l o m i e (by omega) (by omega) ho R ?_ (e - i) 0 o (by omega) (by omega) (Swp.start _ _ _)
        rw [if_pos (by omega)]
        have hrl := revR_length o i e (by omega) (by omega)
        refine ih e (revR o i e) (by omega) (by omega) (by omega) (fun x hx => hm x (revR_mem hx)) ?_
        rw [rev_drop o i e (by omega) (by omega)]
        exact hc
    · exact ih i o (by omega) hi ho hm hc
theorem ev_l1 (l : List Int) (hl : l.length ≤ 1000) : ∀ (d n : Nat), n + d = 9 → Ev (fun k => abugidaref07_Visual.l1 k l (visN l n) ((9 - n : Nat) : Int)) (visF l) := by
  intro d
  induction d with
  | zero =>
    intro n h
    obtain rfl : n = 9 := by omega
    refine Ev.step (fun k => by rw [abugidaref07_Visual.l1, if_neg (by omega)]) ?_
    exact Ev.now _
  | succ d ih =>
    intro n h
    have h2 := ih (n + 1) (by omega)
    obtain ⟨h3, h4⟩ := visN_ok l n
    refine Ev.step (fun k => by rw [abugidaref07_Visual.l1, if_pos (by omega)]) ?_
    refine ev_l2 l ((9 - n : Nat) : Int) (by omega) (by omega) _ (visN l n).length 0 (visN l n) (by omega) (by omega) (by omega) h4 ?_
    rw [List.drop_zero, show ((9 - n : Nat) : Int) - 1 = ((9 - (n + 1) : Nat) : Int) by omega]
    exact h2
theorem ev_l0 (l : List Int) (hl : l.length ≤ 1000) : ∀ (d i : Nat), i + d = l.length → Ev (fun k => abugidaref07_Visual.l0 k l ((List.range i).map (fun (j : Nat) => (j : Int))) (i : Int)) (visF l) := by
  intro d
  induction d with
  | zero =>
    intro i h
    obtain rfl : i = l.length := by omega
    refine Ev.step (fun k => by rw [abugidaref07_Visual.l0, if_neg (by omega)]) ?_
    exact ev_l1 l hl 9 0 rfl
  | succ d ih =>
    intro i h
    have h2 := ih (i + 1) (by omega)
    rw [List.range_succ, List.map_append] at h2
    have c0 : (i : Int) < (l.length : Int) := by omega
    have c1 : ((List.range i).map (fun (j : Nat) => (j : Int))).length < 17592186044416 := by rw [List.length_map, List.length_range]; omega
    have hw : wrap64 ((i : Int) + 1) = ((i + 1 : Nat) : Int) := by rw [w64 _ (by omega) (by omega)]; omega
    refine Ev.step (fun k => by rw [abugidaref07_Visual.l0, if_pos c0, if_pos c1, hw]) ?_
    exact h2
theorem ev_visual (l : List Int) (hl : l.length ≤ 1000) : Ev (fun k => abugidaref07_Visual.f k l) (visF l) := ev_l0 l hl l.length 0 (by omega)
end Vr
end Go.Proofs.Ytacnckneiklgpaa.Plain
namespace Go.Proofs.Ytacnckneiklgpaa.Q
open Go.RowKit Go.Proofs.Ytacnckneiklgpaa.Plain Go.Proofs.YtacnckneiklgpaaW.PrintWords Go.Proofs.YtacnckneiklgpaaW.PrintLast Go.Proofs.YtacnckneiklgpaaW.PrintMore
set_option linter.unusedSimpArgs false
set_option linter.unusedVariables false
attribute [local go_sem] Oper.semAt_some
namespace Ovl
theorem saneK : ∃ k, abugidalaw07_sanity.f k = some true := ⟨300, by decide +kernel⟩
theorem equal_l0 (l : List Int) (hl : l.length ≤ 1000) : ∀ (d i : Nat), i + d = l.length → Ev (fun k => abugidaref07_Equal.l0 k l l (i : Int)) true
  | 0, i, h => by
    refine Ev.step (fun k => by simp only [abugidaref07_Equal.l0, if_neg (show ¬ (i : Int) < (l.length : Int) by omega)]; rfl) ?_
    exact Ev.now _
  | d + 1, i, h => by
    refine Ev.step (fun k => by simp only [abugidaref07_Equal.l0, if_pos (show (i : Int) < (l.length : Int) by omega), if_pos (show (0 : Int) ≤ (i : Int) by omega), w64 ((i : Int) + 1) (by omega) (by omega)]; rfl) ?_
    exact Ev.congr (fun k => if_pos trivial) (equal_l0 l hl d (i + 1) (by omega))
theorem equal_ev (l : List Int) (hl : l.length ≤ 1000) : Ev (fun k => abugidaref07_Equal.f k l l) true := by
  refine Ev.congr (fun k => ?_) (equal_l0 l hl l.length 0 (by omega))
  rw [abugidaref07_Equal.f, if_pos rfl]
  rfl
theorem visF_length (l : List Int) : (visF l).length = l.length := (visN_ok l 9).1
def mod4 (x : Int) : Int := Int.tmod (wrap64 ((Int.tmod x 4) + 4)) 4
theorem mod4_f (x : Int) : abugidaref01_Mod.f x 4 = some (mod4 x) := by
  rw [abugidaref01_Mod.f, if_neg (by decide)]
  rfl
end Ovl
open Ovl in
set_option maxRecDepth 100000 in
set_option maxHeartbeats 8000000 in
theorem orderVisual_calls (A : Option Addr) (c : Nat) (l : List Int) (text : ByteArray) (w : World) (hr : (Kd.int .i64).C w A l.length l) (hc : l.length ≤ c) :
    Calls Try.prog 5 #[.slice A l.length c, .string text] w fun e w' => e = .returned (.bool true) ∧ Below w.heap.size w w' := by
  obtain ⟨ks, hs⟩ := saneK
  have HS := Aside0.mk hs
  obtain ⟨n, hn, hn6, hnl⟩ : ∃ n : Nat, (if 60 < (l.length : Int) then 60 else (l.length : Int)) = (n : Int) ∧ n ≤ 60 ∧ n ≤ l.length := by
    split
    · exact ⟨60, rfl, Nat.le_refl _, by omega⟩
    · exact ⟨l.length, rfl, by omega, Nat.le_refl _⟩
  obtain ⟨i07, hi07, _, hsz7, _⟩ := info_parts info3
  obtain ⟨hcut, hA7, hC7⟩ := print_take_of (P := Try.prog) (Value.int .i64) 0 26 3 .i64 Try.underlying26 hi07 hsz7 A c l (n : Int) (by omega) (by omega) hc
  have hR1 : (Kd.int .i64).C w A (l.take ((n : Int)).toNat).length (l.take ((n : Int)).toNat) := Kd.C_of_reads (d := (0 : Int)) (h1 := fun _ => rfl) (hA7 _ (Kd.reads_of_C hr))
  have hL1 : (l.take ((n : Int)).toNat).length ≤ 60 := by rw [Int.toNat_natCast, List.length_take]; omega
  generalize hl1 : l.take ((n : Int)).toNat = l1 at hcut hA7 hC7 hR1 hL1
  have HR1 := Aside0.mk hR1
  have HC1 := Aside0.mk hC7
  have HL1 := Aside0.mk hL1
  obtain ⟨m, hm, hm6, hml⟩ : ∃ m : Nat, mn (text.size : Int) 120 = (m : Int) ∧ m ≤ 120 ∧ m ≤ text.size := by
    unfold mn
    split
    · exact ⟨120, rfl, Nat.le_refl _, by omega⟩
    · exact ⟨text.size, rfl, by omega, Nat.le_refl _⟩
  have hsh : abugidalaw07_short.f text = some (text.extract 0 m) := by
    rw [abugidalaw07_short.f, hm, if_pos (by omega), if_pos (by omega), Int.toNat_natCast]
  have hSz : (text.extract 0 m).size ≤ 120 := by rw [ByteArray.size_extract]; omega
  generalize text.extract 0 m = s at hsh hSz
  have HSH := Aside0.mk hsh
  obtain ⟨kl, hkl⟩ := Ev.rounds (ev_rlevels s (by omega))
  have HKL := Aside0.mk hkl
  have hl3 : (levF (bytesOf s) (kindsP s)).length ≤ 120 := by rw [levF_length]; exact hSz
  generalize levF (bytesOf s) (kindsP s) = l3 at HKL hl3
  have HL3 := Aside0.mk hl3
  have HO := Own.start w
  clear hr hc hs hR1 hC7 hL1 hsh hkl hl3 hA7 hi07 hsz7 hm hm6 hml hSz hl1
  go_enter Try.func5, Try.ntmps5
  go_wp2_with (first
    | (go_at_call 9; (with_reducible refine (abugidalaw07_sanity.calls ks true _ HS.out).mono ?_); rintro e W1 ⟨rfl, hb1⟩; have HO1 := HO.grow hb1; clear HO hb1))
  have HO2 := HO1.newrow (Kd.int .i64) 3
  clear HO1
  go_loopw [6, 19] (fun v6 v19 w' => ∃ (k : Nat) (A2 : Option Addr) (c2 : Nat), v19 = .int .i64 k ∧ v6 = .slice A2 k c2 ∧ Aside0 (k ≤ l1.length) ∧ Aside0 (Own w w' [.row (Kd.int .i64) 3 w.heap.size (.slice A2 k c2) ((l1.take k).map mod4)])) (fun _ v19 _ => l1.length - (intOf v19).toNat)
  case atStart => exact ⟨0, none, 0, rfl, rfl, ⟨Nat.zero_le _⟩, ⟨HO2⟩⟩
  case round =>
    clear HO2
    obtain ⟨k, A2, c2, rfl, rfl, HK, HOO⟩ := hrel
    have HO := HOO.out
    clear HOO
    by_cases hlt : k < l1.length
    case pos =>
      obtain ⟨ad, hA, z0⟩ := at_int (HO.old HR1.out) k hlt
      subst hA
      have q1 : ((k : Int) < (l1.length : Int)) = True := eq_true (by omega)
      have q0 : (0 ≤ (k : Int)) = True := eq_true (by omega)
      have hkb : (k : Int) + 1 ≤ 1000 := by have := HL1.out; omega
      have hst : (l1.take k).map mod4 ++ [mod4 (l1.getD k 0)] = (l1.take (k + 1)).map mod4 := by
        rw [List.take_add_one, List.map_append, List.getD_eq_getElem?_getD, List.getElem?_eq_getElem hlt]
        rfl
      have hlen : ((l1.take k).map mod4).length = k := by rw [List.length_map, List.length_take]; omega
      generalize (l1.take k).map mod4 = pm at hst hlen HO
      have HST := Aside0.mk hst
      have HLE := Aside0.mk hlen
      have HKLT := Aside0.mk hlt
      generalize l1.getD k 0 = x at z0 HST
      have hmod := Aside0.mk (mod4_f x)
      clear hlt hst hlen
      go_wp2_with (first
        | (go_at_call 23; (with_reducible refine (abugidaref01_Mod.calls x 4 (mod4 x) _ hmod.out).mono ?_); rintro e w' ⟨rfl, hd⟩; have HO3 := HO.grow hd.below; clear HO hd)
        | ((with_reducible refine gate_builtin (b := .append) (xs := #[.tmp 23, .tmp 26]) rfl ?_); at_builtin; go_loud (refine ev_append 0 HO3 rfl rfl (.tmp 23) (.tmp 26) 26 (.int .i64 0) 8 rfl Try.underlying26 hinfo3 rfl (by decide) (by decide) (mod4 x) [.int .i64 (mod4 x)] rfl rfl rfl ?aL ?_); (case aL => have := HLE.out; have := HKLT.out; have := HL1.out; omega); intro A9 c9 W9 HO9; clear HO3))
      rw [HST.out, HLE.out] at HO9
      rw [HLE.out]
      go_roundw
      case rel => exact ⟨k + 1, A9, c9, by go_num, rfl, ⟨HKLT.out⟩, ⟨HO9⟩⟩
      case measure => have := HKLT.out; simp [intOf]; omega
    have q1 : ¬ ((k : Int) < (l1.length : Int)) := by omega
    obtain ⟨sm, hsm⟩ : ∃ sm, (l1.take k).map mod4 = sm := ⟨_, rfl⟩
    have hk : k = sm.length := by have := HK.out; rw [← hsm, List.length_map, List.length_take]; omega
    have hsl : sm.length ≤ 60 := by rw [← hk]; have := HK.out; have := HL1.out; omega
    have HSL := Aside0.mk hsl
    rw [hsm] at HO
    clear hsm hsl HK hlt
    subst hk
    go_wp2_with (first
      | (go_at_call 10; (with_reducible refine (abugidalaw07_short.calls text s _ HSH.out).mono ?_); rintro e W3 ⟨rfl, hb3⟩; have HO3 := HO.grow hb3; clear HO hb3)
      | (go_at_call 15; (with_reducible refine (abugidaref07_Levels.calls kl s l3 _ HKL.out).mono ?_); rintro e W4 ⟨v4, rfl, hR4, hb4⟩; have HO4 := HO3.called hb4 hR4; clear HO3 hR4 hb4; obtain ⟨A4, c4, rfl, -, -⟩ := HO4.row_at 1 rfl))
    have HO5 := HO4.add (r := .box _ 26 #[.slice A l1.length c, .slice A2 sm.length c2, .slice A4 l3.length c4]) (below_alloc (Below.refl _ _) _) ⟨Nat.le_refl _, blk_new _ _⟩
    generalize W4.heap.size = g5 at HO5 ⊢
    clear HO4
    go_loopw [36] (fun v36 w' => ∃ (j : Nat), v36 = .int .i64 j ∧ Aside0 (j ≤ 3) ∧ Aside0 (Own w w' [.row (Kd.int .i64) 3 w.heap.size (.slice A2 sm.length c2) sm, .row (Kd.int .i64) 3 w.heap.size (.slice A4 l3.length c4) l3, .box g5 26 #[.slice A l1.length c, .slice A2 sm.length c2, .slice A4 l3.length c4]])) (fun v36 _ => 3 - (intOf v36).toNat)
    case atStart => exact ⟨0, rfl, ⟨Nat.zero_le _⟩, ⟨HO5⟩⟩
    case round =>
      clear HO5
      obtain ⟨j, rfl, HJ, HOO⟩ := hrel
      have HO := HOO.out
      clear HOO
      by_cases hlt : j < 3
      case neg =>
        have q2 : ¬ ((j : Int) < 3) := by omega
        go_wp2
        go_ret
        exact ⟨rfl, HO.below⟩
      have q2 : ((j : Int) < 3) = True := eq_true (by omega)
      have q0 : (0 ≤ (j : Int)) = True := eq_true (by omega)
      have hjb : (j : Int) + 1 ≤ 1000 := by omega
      obtain ⟨Ax, lx, cx, he, hcx, hlx, hCx⟩ : ∃ (Ax : Option Addr) (lx : List Int) (cx : Nat), (#[Value.slice A l1.length c, .slice A2 sm.length c2, .slice A4 l3.length c4] : Array Value)[j]? = some (.slice Ax lx.length cx) ∧ lx.length ≤ cx ∧ lx.length ≤ 1000 ∧ (Kd.int .i64).C _ Ax lx.length lx := by
        have r0 := HO.row_sl 0 rfl
        have r1 := HO.row_sl 1 rfl
        have g1 := HL1.out
        have g2 := HSL.out
        have g3 := HL3.out
        rcases (show j = 0 ∨ j = 1 ∨ j = 2 by omega) with h | h | h
        · subst h; exact ⟨A, l1, c, rfl, HC1.out, by omega, HO.old HR1.out⟩
        · subst h; exact ⟨A2, sm, c2, rfl, r0.2.1, by omega, r0.2.2⟩
        · subst h; exact ⟨A4, l3, c4, rfl, r1.2.1, by omega, r1.2.2⟩
      have z0 := HO.box_cell 2 rfl j he
      obtain ⟨kv1, hkv⟩ := Ev.rounds (Vr.ev_visual lx hlx)
      obtain ⟨kq, hkq⟩ := Ev.rounds (equal_ev (visF lx) (by rw [visF_length]; exact hlx))
      have HKV := Aside0.mk hkv
      have HKQ := Aside0.mk hkq
      have HCX := Aside0.mk hcx
      have HLX := Aside0.mk (show lx.length ≤ 1000000 by omega)
      have HJ3 := Aside0.mk hlt
      clear hkv hkq hcx hlx he hlt HJ
      go_wp2_with (first
        | (go_at_call 24; (with_reducible refine (visual_calls Ax cx lx _ hCx HCX.out HLX.out).mono ?_); rintro e W6 ⟨v6, rfl, hR6, hb6⟩; have HO6 := HO.called hb6 hR6; have hCx6 := Kd.C_below hCx hb6; clear HO hR6 hb6 hCx)
        | (go_at_call 25; (with_reducible refine (abugidaref07_Visual.calls kv1 Ax cx lx (visF lx) _ hCx6 HCX.out HKV.out).mono ?_); rintro e W7 ⟨v7, rfl, hR7, hb7⟩; have HO7 := HO6.called hb7 hR7; clear HO6 hR7 hb7 hCx6; obtain ⟨A6, c6, rfl, hl6, hC6⟩ := HO7.row_at 3 rfl; obtain ⟨A7, c7, rfl, hl7, hC7⟩ := HO7.row_at 4 rfl)
        | (go_at_call 13; (with_reducible refine (abugidaref07_Equal.calls kq A6 c6 _ A7 c7 _ true _ hC6 hl6 hC7 hl7 HKQ.out).mono ?_); rintro e W8 ⟨rfl, hd⟩; have HO8 := HO7.grow hd.below; clear HO7 hd hC6 hC7))
      have HO9 := HO8.upto 3
      go_roundw
      case rel => exact ⟨j + 1, by go_num, ⟨HJ3.out⟩, ⟨HO9⟩⟩
      case measure => have := HJ3.out; simp [intOf]; omega
theorem orderVisual_walk (a0 : Option Addr) (len0 cap0 : Nat) (z0 : List Int) (a1 : ByteArray) (w : World) (w0 : (a0 = none ∧ len0 = 0 ∧ cap0 = 0 ∧ z0 = []) ∨ ∃ x, a0 = some x ∧ len0 ≤ cap0 ∧ cap0 ≤ maxLen ∧ z0.length = cap0 ∧ (∀ i, i < z0.length → w.cell? (x.add i) = some (.int .i64 (z0.getD i 0))) ∧ ∀ n ∈ z0, (Lit.int .i64 n).wf = true) :
    Calls Try.prog 5 #[.slice a0 len0 cap0, .string a1] w fun e w' => e = .returned (.bool true) ∧ Below w.heap.size w w' := by
  obtain ⟨l0, rfl, hr0, hm0, hw0, hc0⟩ := ReadsInt.ofRowC w0
  exact orderVisual_calls _ _ l0 a1 w (Kd.C_of_reads (d := (0 : Int)) (h1 := fun _ => rfl) hr0) hc0
end Go.Proofs.Ytacnckneiklgpaa.Q

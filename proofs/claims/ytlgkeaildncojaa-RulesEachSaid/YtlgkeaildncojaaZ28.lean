/- Texts of this claim, merged by wip/tools/pack.py: Md, Ml, Rl, Rm, Qx4, Qx1, Qx9, Qx10, Qx13, Qx14. -/
import Derived.Test.YtlgkeaildncojaaZ27
section
/- Made: a right lookup that numbers make. -/
namespace Go.Proofs.Ytlgkeaildncojaa.Q
open Go.RowKit Go.Shelf Go.Proofs.YtlgkeaildncojaaW.PrintWords Go.Proofs.YtlgkeaildncojaaW.PrintLast Go.Proofs.YtlgkeaildncojaaW.PrintMore
set_option linter.unusedSimpArgs false
set_option linter.unusedVariables false
/-- Context: none, or one or two sets. -/
def someF (s : List Int) (p : Int) : List (List Int) × Int :=
  if (nextF s p 3).1 = 0 then setsN s (nextF s (nextF s p 3).2 2).2 (1 + (nextF s (nextF s p 3).2 2).1).toNat else ([], (nextF s p 3).2)
/-- Some calls. -/
def callsN (s : List Int) (k m : Int) (p : Int) : Nat → List S60 × Int
  | 0 => ([], p)
  | j + 1 => ((callsN s k m p j).1 ++ [⟨(nextF s (callsN s k m p j).2 m).1, k + 1 + (nextF s (nextF s (callsN s k m p j).2 m).2 (2 - k)).1⟩], (nextF s (nextF s (callsN s k m p j).2 m).2 (2 - k)).2)
/-- How many sets a rule has. -/
def manyF (s : List Int) (p : Int) : Nat × Int := ((1 + (nextF s p 5).1 * (nextF s (nextF s p 5).2 2).1 % 3).toNat, (nextF s (nextF s p 5).2 2).2)
/-- What a rule does. -/
def actF (s : List Int) (k m : Int) (p : Int) : List Int × List S60 × Int :=
  let n := nextF s p 4
  if k < 2 then
    let q := nextF s n.2 2
    if q.1 = 0 then ([], callsN s k m q.2 (n.1 % 2 + 1).toNat) else let o := drawN s 8 q.2 n.1.toNat; (o.1, [], o.2)
  else let o := drawN s 8 n.2 n.1.toNat; (o.1, [], o.2)
def rule1 (s : List Int) (k : Int) (p : Int) : S49 × Int :=
  let a := manyF s p
  let i := setsN s a.2 a.1
  let b := someF s i.2
  let h := someF s b.2
  let x := actF s k i.1.length h.2
  (⟨b.1, i.1, h.1, x.1, x.2.1⟩, x.2.2)
def rulesN (s : List Int) (k : Int) (p : Int) : Nat → List S49 × Int
  | 0 => ([], p)
  | j + 1 => ((rulesN s k p j).1 ++ [(rule1 s k (rulesN s k p j).2).1], (rule1 s k (rulesN s k p j).2).2)
/-- A lookup that numbers make. -/
def madeF (s : List Int) (k : Int) : S24 := ⟨(rulesN s k (nextF s 0 4).2 (nextF s 0 4).1.toNat).1⟩
def InS (s : List Int) (p : Int) : Prop := 0 ≤ p ∧ p ≤ s.length
theorem someF_p (s : List Int) (p : Int) (hp : InS s p) : InS s (someF s p).2 := by
  unfold someF
  have h1 := nextF_p s p 3 hp.1 hp.2
  split
  · exact setsN_p s _ (nextF_p s _ 2 h1.1 h1.2) _
  · exact h1
theorem manyF_p (s : List Int) (p : Int) (hp : InS s p) : InS s (manyF s p).2 ∧ 1 ≤ (manyF s p).1 ∧ (manyF s p).1 ≤ 3 := by
  unfold manyF
  have h1 := nextF_p s p 5 hp.1 hp.2
  have h2 := nextF_p s _ 2 h1.1 h1.2
  refine ⟨h2, ?_, ?_⟩ <;> dsimp only <;> omega
theorem callsN_p (s : List Int) (k m : Int) (p : Int) (hp : InS s p) : ∀ j, InS s (callsN s k m p j).2
  | 0 => hp
  | j + 1 => by
    have h1 := nextF_p s _ m (callsN_p s k m p hp j).1 (callsN_p s k m p hp j).2
    exact nextF_p s _ (2 - k) h1.1 h1.2
theorem callsN_length (s : List Int) (k m : Int) (p : Int) : ∀ j, (callsN s k m p j).1.length = j
  | 0 => rfl
  | j + 1 => by simp [callsN, callsN_length s k m p j]
theorem actF_p (s : List Int) (k m p : Int) (hp : InS s p) : InS s (actF s k m p).2.2 := by
  have h1 := nextF_p s p 4 hp.1 hp.2
  have h2 := nextF_p s _ 2 h1.1 h1.2
  unfold actF
  dsimp only
  split
  · split
    · exact callsN_p s k m _ h2 _
    · exact drawN_p s 8 _ h2 _
  · exact drawN_p s 8 _ h1 _
theorem rule1_p (s : List Int) (k p : Int) (hp : InS s p) : InS s (rule1 s k p).2 := actF_p s k _ _ (someF_p s _ (someF_p s _ (setsN_p s _ (manyF_p s p hp).1 _)))
theorem rulesN_p (s : List Int) (k p : Int) (hp : InS s p) : ∀ j, InS s (rulesN s k p j).2
  | 0 => hp
  | j + 1 => rule1_p s k _ (rulesN_p s k p hp j)
theorem rulesN_length (s : List Int) (k p : Int) : ∀ j, (rulesN s k p j).1.length = j
  | 0 => rfl
  | j + 1 => by simp [rulesN, rulesN_length s k p j]
/-- append as a step of a region that draws. -/
theorem ev_append_step {P : Program} {ops : Array Oper} {o : Oper} {a : Act} {Q : Exit → Act → World → Prop} {w W : World} {L : List Res} {K : Nat → Obj → Prop} {Kc : Act → World → Prop} {α : Type} {d : Kd α} {e : Nat} {v : Value} {xs : List α} (i : Nat) (HO : Own w W L K) (hi : L[i]? = some (.row d e w.heap.size v xs)) (hw : Region.wanted o (yielded ops a.tmps) = true) (s x : Operand) (t : TypeId) (z : Value) (bytes : Nat)
    (ho : o.op = .call { callee := .builtin .append, args := #[s, x], argTypes := #[t, t] })
    (ht : P.underlying t = some (.slice e)) (hinfo : (P.info? e).map (fun i => (i.zero, i.size, i.bytes)) = some (some z, d.sz, bytes)) (hz : z.cells.size = d.sz) (hs0 : 0 < d.sz) (hb0 : 0 < bytes)
    (p : α) (cs : List Value) (hs : a.eval s = v) (hx : a.eval x = .slice (some ⟨W.heap.size, 0, none⟩) 1 1) (hM : d.M W w.heap.size (fun _ => False) p cs) (hl : (xs.length + 1) * bytes ≤ 140737488355328)
    (h : ∀ A c W', Own w W' (L.set i (.row d e w.heap.size (.slice A (xs.length + 1) c) (xs ++ [p]))) K → Kc (a.put o.dst (.slice A (xs.length + 1) c)) W') : if Region.wanted o (yielded ops a.tmps) = true then Oper.wp P o a (W.alloc (.cells cs.toArray e)) Kc Q else Kc (a.put o.dst undef) (W.alloc (.cells cs.toArray e)) := by
  obtain ⟨h1, hk0, F, h2⟩ := HO
  have hle := h1.size
  have hR : d.R e W w.heap.size (fun k => w.heap.size ≤ k ∧ (k < W.heap.size → F k = i)) v xs := Kd.R_mono (Kd.R_bound (h2 i _ hi)) (fun k hk => ⟨hk.1.1, fun _ => hk.1.2⟩)
  refine Kd.R_append_step d (w0 := w) w.heap.size hw s x t e z bytes ho ht hinfo hz hs0 hb0 v xs p cs _ (fun _ => False) hs hx hM (fun _ hk => hk.elim) (fun k hk => ⟨by omega, fun hl => by omega⟩) hR h1 hle hl ?_
  intro v1 w1 hR1 hb1 hg1 hat
  obtain ⟨A, c, rfl⟩ := Kd.R_slice hR1
  rw [List.length_append, List.length_singleton] at hR1 ⊢
  have hSol : ∀ k, some k = v.ownBlock → Solid W k := fun k he => by obtain ⟨_, inner, ho2, _⟩ := hR; obtain ⟨cs2, hc2⟩ := own_typed ho2 k he.symm; exact solid_cells hc2
  refine h A c w1 ⟨hb1, fun k o hk => ⟨(hg1.block k (blk_lt (hk0 k o hk).1) (fun he => not_solid (hk0 k o hk).1 (hk0 k o hk).2 (hSol k he))).trans (hk0 k o hk).1, (hk0 k o hk).2⟩, fun k => if k < W.heap.size then F k else i, fun j q hj => ?_⟩
  have hil : i < L.length := (List.getElem?_eq_some_iff.mp hi).1
  rw [List.getElem?_set] at hj
  by_cases e1 : i = j
  · subst e1
    rw [if_pos rfl, if_pos hil] at hj
    injection hj with hj
    subst hj
    refine Kd.R_mono hR1 (fun k hk => ⟨hk.1, ?_⟩)
    dsimp only
    split
    · rename_i hlt; exact hk.2 hlt
    · rfl
  · rw [if_neg e1] at hj
    refine q.move (h2 j q hj) (fun k hk hl _ => ⟨hg1.block k hl (fun he => e1 ?_), hk.1, by dsimp only; rw [if_pos hl]; exact hk.2⟩)
    exact ((h2 i _ hi).1 k he.symm).2.symm.trans hk.2
/-- The five rows of a rule, as one value. -/
theorem Own.rule {w W : World} {K : Nat → Obj → Prop} {a0 a1 a2 a3 : Res} {L : List Res} (h : Own w W L K) (i0 i1 i2 i3 i4 : Nat) {v0 v1 v2 v3 v4 : Value} {x0 x1 x2 : List (List Int)} {x3 : List Int} {x4 : List S60}
    (h0 : L[0]? = some a0) (h1 : L[1]? = some a1) (h2 : L[2]? = some a2) (h3 : L[3]? = some a3)
    (j0 : L[i0]? = some (.row (Kd.slice 3 (Kd.int .i64)) 26 w.heap.size v0 x0)) (j1 : L[i1]? = some (.row (Kd.slice 3 (Kd.int .i64)) 26 w.heap.size v1 x1)) (j2 : L[i2]? = some (.row (Kd.slice 3 (Kd.int .i64)) 26 w.heap.size v2 x2)) (j3 : L[i3]? = some (.row (Kd.int .i64) 3 w.heap.size v3 x3)) (j4 : L[i4]? = some (.row k60 60 w.heap.size v4 x4))
    (hn : [0, 1, 2, 3, i0, i1, i2, i3, i4].Nodup) : Own w W [a0, a1, a2, a3, .val k49 w.heap.size (⟨x0, x1, x2, x3, x4⟩ : S49) [v0, v1, v2, v3, v4]] K := by
  have hp := h.pick [0, 1, 2, 3, i0, i1, i2, i3, i4] (L' := [a0, a1, a2, a3] ++ [.row (Kd.slice 3 (Kd.int .i64)) 26 w.heap.size v0 x0, .row (Kd.slice 3 (Kd.int .i64)) 26 w.heap.size v1 x1, .row (Kd.slice 3 (Kd.int .i64)) 26 w.heap.size v2 x2, .row (Kd.int .i64) 3 w.heap.size v3 x3, .row k60 60 w.heap.size v4 x4]) (fun q r hq => by
    match q, hq with
    | 0, hq => exact ⟨0, rfl, by rw [h0]; exact hq⟩
    | 1, hq => exact ⟨1, rfl, by rw [h1]; exact hq⟩
    | 2, hq => exact ⟨2, rfl, by rw [h2]; exact hq⟩
    | 3, hq => exact ⟨3, rfl, by rw [h3]; exact hq⟩
    | 4, hq => exact ⟨i0, rfl, by rw [j0]; exact hq⟩
    | 5, hq => exact ⟨i1, rfl, by rw [j1]; exact hq⟩
    | 6, hq => exact ⟨i2, rfl, by rw [j2]; exact hq⟩
    | 7, hq => exact ⟨i3, rfl, by rw [j3]; exact hq⟩
    | 8, hq => exact ⟨i4, rfl, by rw [j4]; exact hq⟩
    | (n + 9), hq => simp at hq) hn
  exact (Own.bag _ _ hp).say 4 rfl (fun ok h_ => by
    obtain ⟨F, hF⟩ := h_
    have m := fun (k : Nat) (hk : ok k ∧ F k = 0) => hk.1
    exact k49_mkM W w.heap.size ok (⟨x0, x1, x2, x3, x4⟩ : S49) (Kd.R_mono (hF 0 _ rfl) (fun _ hk => hk.1)) (Kd.R_mono (hF 1 _ rfl) (fun _ hk => hk.1)) (Kd.R_mono (hF 2 _ rfl) (fun _ hk => hk.1)) (Kd.R_mono (hF 3 _ rfl) (fun _ hk => hk.1)) (Kd.R_mono (hF 4 _ rfl) (fun _ hk => hk.1)))

abbrev kLL : Kd (List Int) := Kd.slice 3 (Kd.int .i64)
set_option maxRecDepth 100000 in
set_option maxHeartbeats 4000000 in
theorem made_calls (A : Option Addr) (c : Nat) (s : List Int) (kk : Nat) (w : World) (hr : Kd.C (Kd.int .i64) w A s.length s) (hc : s.length ≤ c) (hsl : s.length ≤ 9223372036854775807) (hkk : kk ≤ 2) :
    Calls Try.prog 43 #[.slice A s.length c, .int .i64 kk, .int .i64 3, .int .i64 9] w fun e w' => ∃ v, e = .returned (.agg #[v]) ∧ Kd.R k49 49 w' w.heap.size (fun _ => True) v (madeF s kk).f0 ∧ Below w.heap.size w w' := by
  have HR := Aside0.mk hr
  have HSL := Aside0.mk hsl
  have HKK := Aside0.mk hkk
  have HO := Own.start w
  have HP0 := Aside0.mk (show (0 : Int) ≤ 0 ∧ (0 : Int) ≤ s.length from ⟨Int.le_refl _, by omega⟩)
  obtain ⟨m, p0, hn0, ⟨ml, mh⟩, hp0⟩ := nextF_all s 0 4 ⟨Int.le_refl _, by omega⟩ (by decide)
  have HN0 := Aside0.mk hn0
  have HPP := Aside0.mk hp0
  obtain ⟨mm, rfl⟩ := Int.eq_ofNat_of_zero_le ml
  have HMM := Aside0.mk (show mm < 4 by omega)
  clear hr hsl hkk hn0 hp0 ml mh
  go_enter Try.func43, Try.ntmps43
  go_wp2_with (first
    | ((with_reducible refine gate_dst (N := 8) rfl ?_); refine ev_box (N := 8) (cs := #[.slice none 0 0]) (t := 24) HO rfl rfl ?hr ?_; (case hr => first | (go_simp; done) | (go_simp; rfl)); intro g8 W1 HO1 hb1; clear HO hb1)
    | ((with_reducible refine gate_dst (N := 19) rfl ?_); refine ev_box (N := 19) (cs := #[.slice A s.length c, .int .i64 0]) (t := 104) HO1 rfl rfl ?hr ?_; (case hr => first | (go_simp; done) | (go_simp; rfl)); intro g9 W2 HO2 hb2; have hge := (HO2.box_at 1 rfl).2; have HO3 := HO2.say 1 (r' := .drw w g9 s 0) rfl (fun ok h_ => ⟨h_.1, A, c, h_.2, hge, HR.out⟩); clear HO1 HO2 hb2 hge)
    | ((with_reducible refine gate_dst (N := 10) rfl ?_); refine ev_box (N := 10) (cs := #[.slice none 0 0]) (t := 24) HO3 rfl rfl ?hr ?_; (case hr => first | (go_simp; done) | (go_simp; rfl)); intro g10 W4 HO4 hb4; clear HO3 hb4)
    | (go_at_call 60; (refine (next_calls 4 HO4 1 rfl HP0.out HSL.out (by decide) (by decide) HN0.out).mono ?_; rintro e_ W_ ⟨rfl, HO5⟩; clear HO4)))
  have HO := HO5.newrow k49 49
  clear HO5
  go_loopw [12] (fun v12 w' => ∃ (k : Nat) (out : List S49) (p : Int) (A10 : Option Addr) (c10 : Nat), v12 = .int .i64 k ∧ Aside0 (k ≤ mm) ∧ Aside0 (rulesN s kk p0 k = (out, p)) ∧ Aside0 (Own w w' [.box g8 24 #[.slice none 0 0], .drw w g9 s p, .box g10 24 #[.slice A10 k c10], .row k49 49 w.heap.size (.slice A10 k c10) out])) (fun v12 _ => mm - (intOf v12).toNat)
  case atStart => exact ⟨0, [], p0, none, 0, rfl, ⟨Nat.zero_le _⟩, ⟨rfl⟩, ⟨HO⟩⟩
  case round =>
    clear HO
    obtain ⟨k, out, p, A10, c10, rfl, HK, HRN, HOO⟩ := hrel
    have HO := HOO.out
    clear HOO
    have hp := rulesN_p s kk p0 HPP.out k
    have hol := rulesN_length s kk p0 k
    rw [HRN.out] at hp hol
    have HOL := Aside0.mk (show out.length = k from hol)
    have HP := Aside0.mk hp
    clear hp hol
    by_cases hlt : k < mm
    case neg =>
      have hkm : k = mm := by have := HK.out; omega
      have q1 : ¬ ((k : Int) < (mm : Int)) := by omega
      have x1 := HO.box_cell 2 rfl 0 rfl
      have HF := Aside0.mk (show madeF s kk = ⟨out⟩ by
        unfold madeF
        rw [HN0.out]
        dsimp only
        rw [Int.toNat_natCast, ← hkm, HRN.out])
      clear hlt hkm
      go_wp2_with (first
        | ((with_reducible refine gate_store (t := 24) (p := 8) rfl ?_); (refine ev_store (cs' := #[.slice A10 k c10]) (.agg #[.slice A10 k c10]) 0 HO rfl rfl rfl rfl 0 rfl rfl sz24 (by simp [Value.oneCell', Value.cells]) (Nat.le_refl _) rfl ?_); intro W6 HO6; clear HO; have x2 := HO6.box_cell 0 rfl 0 rfl))
      refine bodyPost_ret (results_cell_row rfl _ _ g8 24 #[.slice A10 k c10] (0, 0) _ rfl (HO6.box_at 0 rfl).1 Try.underlying24 rfl sz24) rfl ?_
      exact ⟨_, rfl, by rw [HF.out]; exact HO6.row_R 3 rfl, HO6.below⟩
    obtain ⟨a, p1, hn1, ⟨al, ah⟩, hp1⟩ := nextF_all s p 5 HP.out (by decide)
    obtain ⟨b, p2, hn2, ⟨bl, bh⟩, hp2⟩ := nextF_all s p1 2 hp1 (by decide)
    have hmany : manyF s p = ((1 + a * b % 3).toNat, p2) := by unfold manyF; rw [hn1]; dsimp only; rw [hn2]
    have hmp := manyF_p s p HP.out
    rw [hmany] at hmp
    obtain ⟨n, hn⟩ : ∃ n : Nat, (1 + a * b % 3).toNat = n := ⟨_, rfl⟩
    rw [hn] at hmany hmp
    obtain ⟨In, p3, hin, hp3⟩ : ∃ In p3, setsN s p2 n = (In, p3) ∧ InS s p3 := ⟨_, _, rfl, setsN_p s p2 hp2 n⟩
    have hil := setsN_length s p2 n
    rw [hin] at hil
    have hab : 0 ≤ a * b ∧ a * b ≤ 4 := by
      rcases (show b = 0 ∨ b = 1 by omega) with rfl | rfl <;> omega
    have HW := Aside0.mk (show IntKind.i64.wrap (a * b) = a * b ∧ IntKind.i64.wrap (1 + Int.tmod (a * b) 3) = (n : Int) from ⟨IntWalk.i64_in _ (by omega), by
      rw [Int.tmod_eq_emod_of_nonneg hab.1, IntWalk.i64_in _ (by omega)]; omega⟩)
    have HW2 := Aside0.mk (show wrap64 (a * b) = a * b ∧ wrap64 (1 + Int.tmod (a * b) 3) = (n : Int) from by simpa only [i64_w] using HW.out)
    have HN1 := Aside0.mk hn1
    have HN2 := Aside0.mk hn2
    have HP1 := Aside0.mk hp1
    have HP2 := Aside0.mk hp2
    have HP3 := Aside0.mk hp3
    have HIN := Aside0.mk hin
    have HIL := Aside0.mk (show In.length = n from hil)
    have HMY := Aside0.mk hmany
    have HNB := Aside0.mk (show 1 ≤ n ∧ n ≤ 3 from hmp.2)
    have HLT := Aside0.mk hlt
    have q1 : ((k : Int) < (mm : Int)) = True := eq_true (by omega)
    have hkb : (k : Int) + 1 ≤ 1000 := by have := HMM.out; omega
    obtain ⟨e1, p4, hn3, ⟨el, eh⟩, hp4⟩ := nextF_all s p3 3 hp3 (by decide)
    have HN3 := Aside0.mk hn3
    have HP4 := Aside0.mk hp4
    clear hn3 hp4 el eh
    clear hn1 hn2 hp1 hp2 hp3 hmany hmp hin hil hab hlt al ah bl bh hn
    go_upto_region 8 with (first
      | (go_at_call 60; (refine (next_calls 5 HO 1 rfl HP.out HSL.out (by decide) (by decide) HN1.out).mono ?_; rintro e_ W_ ⟨rfl, HO1⟩; clear HO))
      | (go_at_call 60; (refine (next_calls 2 HO1 1 rfl HP1.out HSL.out (by decide) (by decide) HN2.out).mono ?_; rintro e_ W_ ⟨rfl, HO2⟩; clear HO1))
      | (go_at_call 61; ((first | simp only [HW.out.1, HW.out.2] | simp only [HW2.out.1, HW2.out.2]); refine (sets_calls n HO2 1 rfl HP2.out HSL.out (by have := HNB.out; omega) HIN.out).mono ?_; rintro e_ W_ ⟨v3, rfl, HO3⟩; clear HO2; obtain ⟨Ai, ci, rfl, -, -⟩ := HO3.row_at 4 rfl; rw [HIL.out] at HO3; rw [HIL.out]))
      | ((with_reducible refine gate_dst (N := 13) rfl ?_); refine ev_box (N := 13) (cs := #[.slice none 0 0, .slice none 0 0, .slice none 0 0, .slice none 0 0, .slice none 0 0]) (t := 49) HO3 rfl rfl ?hr ?_; (case hr => first | (go_simp; done) | (go_simp; rfl)); intro g13 W4 HO4 hb4; clear HO3 hb4)
      | ((with_reducible refine gate_store (t := 49) (p := 13) rfl ?_); (refine ev_store (cs' := #[.slice none 0 0, .slice Ai n ci, .slice none 0 0, .slice none 0 0, .slice none 0 0]) (.agg #[.slice none 0 0, .slice Ai n ci, .slice none 0 0, .slice none 0 0, .slice none 0 0]) 5 HO4 rfl rfl rfl rfl 0 rfl rfl sz49 (by simp [Value.oneCell', Value.cells]) (Nat.le_refl _) rfl ?_); intro W5 HO5; clear HO4))
    go_upto_if 40 with (first
      | (go_at_call 60; (refine (next_calls 3 HO5 1 rfl HP3.out HSL.out (by decide) (by decide) HN3.out).mono ?_; rintro e_ W_ ⟨rfl, HO6⟩; clear HO5)))
    go_cut [] (fun wc => ∃ (Bk : List (List Int)) (pB : Int) (Ab : Option Addr) (cb : Nat), Aside0 (someF s p3 = (Bk, pB)) ∧ Aside0 (Own w wc [.box g8 24 #[.slice none 0 0], .drw w g9 s pB, .box g10 24 #[.slice A10 k c10], .row k49 49 w.heap.size (.slice A10 k c10) out, .row kLL 26 w.heap.size (.slice Ai n ci) In, .box g13 49 #[.slice Ab Bk.length cb, .slice Ai n ci, .slice none 0 0, .slice none 0 0, .slice none 0 0], .row kLL 26 w.heap.size (.slice Ab Bk.length cb) Bk]))
    case first =>
      by_cases e0 : e1 = 0
      case pos =>
        have q2 : (e1 == 0) = true := beq_iff_eq.mpr e0
        obtain ⟨t, p5, hn4, ⟨tl, th⟩, hp5⟩ := nextF_all s p4 2 HP4.out (by decide)
        obtain ⟨tt, rfl⟩ := Int.eq_ofNat_of_zero_le tl
        obtain ⟨X, p6, hx⟩ : ∃ X p6, setsN s p5 (1 + tt) = (X, p6) := ⟨_, _, rfl⟩
        have HSF := Aside0.mk (show someF s p3 = (X, p6) by
          unfold someF
          rw [HN3.out]
          dsimp only
          rw [if_pos e0, hn4]
          dsimp only
          rw [show (1 + (tt : Int)).toNat = 1 + tt by omega, hx])
        have HN4 := Aside0.mk hn4
        have HP5 := Aside0.mk hp5
        have HX := Aside0.mk hx
        have HT := Aside0.mk (show 1 + tt ≤ 1000 by omega)
        have HWT := Aside0.mk (show IntKind.i64.wrap (1 + (tt : Int)) = ((1 + tt : Nat) : Int) by rw [IntWalk.i64_in _ (by omega)]; omega)
        have HWT2 := Aside0.mk (show wrap64 (1 + (tt : Int)) = ((1 + tt : Nat) : Int) from by simpa only [i64_w] using HWT.out)
        clear e0 hn4 hp5 hx tl th
        go_wp2_with (first
          | (go_at_call 60; (refine (next_calls 2 HO6 1 rfl HP4.out HSL.out (by decide) (by decide) HN4.out).mono ?_; rintro e_ W_ ⟨rfl, HOa⟩; clear HO6))
          | (go_at_call 61; ((first | simp only [HWT.out] | simp only [HWT2.out]); refine (sets_calls (1 + tt) HOa 1 rfl HP5.out HSL.out HT.out HX.out).mono ?_; rintro e_ W_ ⟨vx, rfl, HOb⟩; clear HOa; obtain ⟨Ax, cx, rfl, -, -⟩ := HOb.row_at 6 rfl; have m0 := HOb.box_cell 5 rfl 0 rfl; have f0 := HOb.box_free 5 rfl 0)))
        have HOc := HOb.put 5 rfl 0 (.slice Ax X.length cx) (by simp) rfl
        go_meet
        case rel => exact ⟨X, p6, Ax, cx, HSF, ⟨HOc⟩⟩
      case neg =>
        have q2 : (e1 == 0) = false := beq_eq_false_iff_ne.mpr e0
        have HSF := Aside0.mk (show someF s p3 = ([], p4) by
          unfold someF
          rw [HN3.out]
          dsimp only
          rw [if_neg e0])
        have HOc := HO6.newrow kLL 26
        clear e0 HO6
        go_wp2
        go_meet
        case rel => exact ⟨[], p4, none, 0, HSF, ⟨HOc⟩⟩
    clear HO6
    obtain ⟨Bk, pB, Ab, cb, HSB, HOO⟩ := hcut
    have HOB := HOO.out
    clear HOO
    have hp_ := someF_p s p3 HP3.out
    rw [HSB.out] at hp_
    have HPB := Aside0.mk hp_
    clear hp_
    obtain ⟨e2, p7, hn5, ⟨el, eh⟩, hp7⟩ := nextF_all s pB 3 HPB.out (by decide)
    have HN5 := Aside0.mk hn5
    have HP7 := Aside0.mk hp7
    clear hn5 hp7 el eh
    go_upto_if 50 with (first
      | (go_at_call 60; (refine (next_calls 3 HOB 1 rfl HPB.out HSL.out (by decide) (by decide) HN5.out).mono ?_; rintro e_ W_ ⟨rfl, HO7⟩; clear HOB)))
    go_cut [] (fun wc => ∃ (Hd : List (List Int)) (pH : Int) (Ah : Option Addr) (ch : Nat), Aside0 (someF s pB = (Hd, pH)) ∧ Aside0 (Own w wc [.box g8 24 #[.slice none 0 0], .drw w g9 s pH, .box g10 24 #[.slice A10 k c10], .row k49 49 w.heap.size (.slice A10 k c10) out, .row kLL 26 w.heap.size (.slice Ai n ci) In, .box g13 49 #[.slice Ab Bk.length cb, .slice Ai n ci, .slice Ah Hd.length ch, .slice none 0 0, .slice none 0 0], .row kLL 26 w.heap.size (.slice Ab Bk.length cb) Bk, .row kLL 26 w.heap.size (.slice Ah Hd.length ch) Hd]))
    case first =>
      by_cases e0 : e2 = 0
      case pos =>
        have q2 : (e2 == 0) = true := beq_iff_eq.mpr e0
        obtain ⟨t, p5, hn4, ⟨tl, th⟩, hp5⟩ := nextF_all s p7 2 HP7.out (by decide)
        obtain ⟨tt, rfl⟩ := Int.eq_ofNat_of_zero_le tl
        obtain ⟨X, p6, hx⟩ : ∃ X p6, setsN s p5 (1 + tt) = (X, p6) := ⟨_, _, rfl⟩
        have HSF := Aside0.mk (show someF s pB = (X, p6) by
          unfold someF
          rw [HN5.out]
          dsimp only
          rw [if_pos e0, hn4]
          dsimp only
          rw [show (1 + (tt : Int)).toNat = 1 + tt by omega, hx])
        have HN4 := Aside0.mk hn4
        have HP5 := Aside0.mk hp5
        have HX := Aside0.mk hx
        have HT := Aside0.mk (show 1 + tt ≤ 1000 by omega)
        have HWT := Aside0.mk (show IntKind.i64.wrap (1 + (tt : Int)) = ((1 + tt : Nat) : Int) by rw [IntWalk.i64_in _ (by omega)]; omega)
        have HWT2 := Aside0.mk (show wrap64 (1 + (tt : Int)) = ((1 + tt : Nat) : Int) from by simpa only [i64_w] using HWT.out)
        clear e0 hn4 hp5 hx tl th
        go_wp2_with (first
          | (go_at_call 60; (refine (next_calls 2 HO7 1 rfl HP7.out HSL.out (by decide) (by decide) HN4.out).mono ?_; rintro e_ W_ ⟨rfl, HOa⟩; clear HO7))
          | (go_at_call 61; ((first | simp only [HWT.out] | simp only [HWT2.out]); refine (sets_calls (1 + tt) HOa 1 rfl HP5.out HSL.out HT.out HX.out).mono ?_; rintro e_ W_ ⟨vx, rfl, HOb⟩; clear HOa; obtain ⟨Ax, cx, rfl, -, -⟩ := HOb.row_at 7 rfl; have m0 := HOb.box_cell 5 rfl 2 rfl; have f0 := HOb.box_free 5 rfl 2)))
        have HOc := HOb.put 5 rfl 2 (.slice Ax X.length cx) (by simp) rfl
        go_meet
        case rel => exact ⟨X, p6, Ax, cx, HSF, ⟨HOc⟩⟩
      case neg =>
        have q2 : (e2 == 0) = false := beq_eq_false_iff_ne.mpr e0
        have HSF := Aside0.mk (show someF s pB = ([], p7) by
          unfold someF
          rw [HN5.out]
          dsimp only
          rw [if_neg e0])
        have HOc := HO7.newrow kLL 26
        clear e0 HO7
        go_wp2
        go_meet
        case rel => exact ⟨[], p7, none, 0, HSF, ⟨HOc⟩⟩
    clear HO7
    obtain ⟨Hd, pH, Ah, ch, HSH, HOO⟩ := hcut
    have HOH := HOO.out
    clear HOO
    have hp_ := someF_p s pB HPB.out
    rw [HSH.out] at hp_
    have HPH := Aside0.mk hp_
    clear hp_
    have hru : ∀ os cs pz, actF s kk n pH = (os, cs, pz) → rulesN s kk p0 (k + 1) = (out ++ [(⟨Bk, In, Hd, os, cs⟩ : S49)], pz) := by
      intro os cs pz he
      have h1 : rule1 s kk p = ((⟨Bk, In, Hd, os, cs⟩ : S49), pz) := by
        unfold rule1
        rw [HMY.out]
        dsimp only
        rw [HIN.out]
        dsimp only
        rw [HSB.out]
        dsimp only
        rw [HSH.out]
        dsimp only
        rw [HIL.out, he]
      rw [rulesN, HRN.out]
      dsimp only
      rw [h1]
    have HRU := Aside0.mk hru
    clear hru
    obtain ⟨nv, p8, hn6, ⟨nl, nh⟩, hp8⟩ := nextF_all s pH 4 HPH.out (by decide)
    obtain ⟨nn, rfl⟩ := Int.eq_ofNat_of_zero_le nl
    have HN6 := Aside0.mk hn6
    have HP8 := Aside0.mk hp8
    have HNN := Aside0.mk (show nn < 4 by omega)
    clear hn6 hp8 nl nh
    have hkb2 : (kk : Int) + 1 ≤ 1000 := by have := HKK.out; omega
    by_cases hk2 : kk < 2
    case neg =>
      have g1 : ((kk : Int) + 1 < 3) = False := eq_false (by omega)
      have g2 : decide ((kk : Int) + 1 < 3) = false := decide_eq_false (by omega)
      have HK2 := Aside0.mk hk2
      clear hk2
      go_wp2_with (first
        | (go_at_call 60; (refine (next_calls 4 HOH 1 rfl HPH.out HSL.out (by decide) (by decide) HN6.out).mono ?_; rintro e_ W_ ⟨rfl, HOq⟩; clear HOH)))
      have HO9 := HOq.newrow (Kd.int .i64) 3
      clear HOq
      go_loopw [16] (fun v16 w' => ∃ (j : Nat) (os : List Int) (pj : Int) (Ao : Option Addr) (co : Nat), v16 = .int .i64 j ∧ Aside0 (j ≤ nn) ∧ Aside0 (drawN s 8 p8 j = (os, pj)) ∧ Aside0 (Own w w' [.box g8 24 #[.slice none 0 0], .drw w g9 s pj, .box g10 24 #[.slice A10 k c10], .row k49 49 w.heap.size (.slice A10 k c10) out, .row kLL 26 w.heap.size (.slice Ai n ci) In, .box g13 49 #[.slice Ab Bk.length cb, .slice Ai n ci, .slice Ah Hd.length ch, .slice Ao j co, .slice none 0 0], .row kLL 26 w.heap.size (.slice Ab Bk.length cb) Bk, .row kLL 26 w.heap.size (.slice Ah Hd.length ch) Hd, .row (Kd.int .i64) 3 w.heap.size (.slice Ao j co) os])) (fun v16 _ => nn - (intOf v16).toNat)
      case atStart => exact ⟨0, [], p8, none, 0, rfl, ⟨Nat.zero_le _⟩, ⟨rfl⟩, ⟨HO9⟩⟩
      case round =>
        clear HO9
        obtain ⟨j, os, pj, Ao, co, rfl, HJ, HDR, HOO⟩ := hrel
        have HOj := HOO.out
        clear HOO
        have hpj := drawN_p s 8 p8 HP8.out j
        have hjl := drawN_length s 8 p8 j
        rw [HDR.out] at hpj hjl
        have HJL := Aside0.mk (show os.length = j from hjl)
        have HPJ := Aside0.mk hpj
        clear hpj hjl
        by_cases hj : j < nn
        case pos =>
          have q5 : ((j : Int) < (nn : Int)) = True := eq_true (by omega)
          have hjb : (j : Int) + 1 ≤ 1000 := by have := HNN.out; omega
          obtain ⟨v, pj1, hm, ⟨vl, vh⟩, hpj1⟩ := nextF_all s pj 8 HPJ.out (by decide)
          have HM := Aside0.mk hm
          have HDR2 := Aside0.mk (show drawN s 8 p8 (j + 1) = (os ++ [v], pj1) by simp only [drawN, HDR.out, hm])
          have HJN := Aside0.mk hj
          have x1 := HOj.box_cell 5 rfl 3 rfl
          clear hm vl vh hpj1 hj
          go_wp2
          go_region_law (first
            | (go_simp; go_at_call 60; ((try simp only [show min (9 : Int) 8 = 8 from rfl]); refine (next_calls 8 HOj.drew 1 rfl HPJ.out HSL.out (by decide) (by decide) HM.out).mono ?_; rintro e_ W_ ⟨rfl, HO1⟩; clear HOj x1; have x2 := HO1.box_cell 5 rfl 3 rfl; have x3 := fun o_ => (HO1.alloc o_).box_cell 5 rfl 3 rfl))
            | (refine ev_append_step (d := Kd.int .i64) 8 HO1 rfl (by rfl) (.tmp 101) (.tmp 106) 26 (.int .i64 0) 8 rfl Try.underlying26 info3 rfl (by decide) (by decide) v [.int .i64 v] rfl rfl rfl ?_ ?_; (have := HJL.out; have := HNN.out; have := HJN.out; omega); intro A5 c5 W5 HO5; clear HO1 x2 x3; have x5 := HO5.box_cell 5 rfl 3 rfl; have f5 := HO5.box_free 5 rfl 3))
          all_goals
            have HO6 := HO5.put 5 rfl 3 (.slice A5 (os.length + 1) c5) (by simp) rfl
            rw [HJL.out] at HO6
            rw [HJL.out]
            go_wp2
            go_roundw
            case rel => exact ⟨j + 1, _, pj1, A5, c5, by go_num, ⟨HJN.out⟩, HDR2, ⟨HO6⟩⟩
            case measure => have := HJN.out; simp [intOf]; omega
        case neg =>
          have hjn : j = nn := by have := HJ.out; omega
          have q5 : ¬ ((j : Int) < (nn : Int)) := by omega
          have HAF := Aside0.mk (show actF s kk n pH = (os, [], pj) by
            have e9 := HDR.out
            rw [hjn] at e9
            unfold actF; rw [HN6.out]; dsimp only; rw [if_neg (by have := HK2.out; omega), Int.toNat_natCast, e9])
          have HOt := HOj.newrow k60 60
          clear HOj hj hjn
          have x10 := HOt.box_cell 2 rfl 0 rfl
          have z0 := HOt.box_cell 5 rfl 0 rfl
          have z1 := HOt.box_cell 5 rfl 1 rfl
          have z2 := HOt.box_cell 5 rfl 2 rfl
          have z3 := HOt.box_cell 5 rfl 3 rfl
          have z4 := HOt.box_cell 5 rfl 4 rfl
          go_wp2_with (first
            | ((with_reducible refine gate_builtin (b := .append) (xs := #[.tmp 110, .tmp 112]) rfl ?_); at_builtin; (have HV := HOt.rule 6 4 7 8 9 rfl rfl rfl rfl rfl rfl rfl rfl rfl (by decide); refine ev_appendv 3 4 (by decide) HV rfl rfl rfl (.tmp 110) (.tmp 112) 22 (.agg #[.slice none 0 0, .slice none 0 0, .slice none 0 0, .slice none 0 0, .slice none 0 0]) 120 rfl Try.underlying22 info49 rfl (by decide) (by decide) rfl rfl ?aL ?_); (case aL => have := HOL.out; have := HLT.out; have := HMM.out; omega); intro A20 c20 W20 HO20; clear HV HOt x10 z0 z1 z2 z3 z4; rw [HOL.out] at HO20; have x20 := HO20.box_cell 2 rfl 0 rfl; have f20 := HO20.box_free 2 rfl 0))
          try rw [HOL.out]
          have HO21 := (HO20.put 2 rfl 0 (.slice A20 (k + 1) c20) (by simp) rfl).upto 4
          go_roundw
          case rel => exact ⟨k + 1, _, pj, A20, c20, by go_num, ⟨HLT.out⟩, ⟨HRU.out os [] pj HAF.out⟩, ⟨HO21⟩⟩
          case measure => have := HLT.out; simp [intOf]; omega
    obtain ⟨qv, p9, hn7, ⟨ql, qh⟩, hp9⟩ := nextF_all s p8 2 HP8.out (by decide)
    have HN7 := Aside0.mk hn7
    have HP9 := Aside0.mk hp9
    have g1 : ((kk : Int) + 1 < 3) = True := eq_true (by omega)
    have g2 : decide ((kk : Int) + 1 < 3) = true := decide_eq_true (by omega)
    have HK2 := Aside0.mk hk2
    clear hn7 hp9 ql qh hk2
    by_cases hq : qv = 0
    case neg =>
      have g3 : (qv == 0) = false := beq_eq_false_iff_ne.mpr hq
      have HQ := Aside0.mk hq
      clear hq
      go_wp2_with (first
        | (go_at_call 60; (refine (next_calls 4 HOH 1 rfl HPH.out HSL.out (by decide) (by decide) HN6.out).mono ?_; rintro e_ W_ ⟨rfl, HOq⟩; clear HOH))
        | (go_at_call 60; (refine (next_calls 2 HOq 1 rfl HP8.out HSL.out (by decide) (by decide) HN7.out).mono ?_; rintro e_ W_ ⟨rfl, HOr⟩; clear HOq)))
      have HO9 := HOr.newrow (Kd.int .i64) 3
      clear HOr
      go_loopw [16] (fun v16 w' => ∃ (j : Nat) (os : List Int) (pj : Int) (Ao : Option Addr) (co : Nat), v16 = .int .i64 j ∧ Aside0 (j ≤ nn) ∧ Aside0 (drawN s 8 p9 j = (os, pj)) ∧ Aside0 (Own w w' [.box g8 24 #[.slice none 0 0], .drw w g9 s pj, .box g10 24 #[.slice A10 k c10], .row k49 49 w.heap.size (.slice A10 k c10) out, .row kLL 26 w.heap.size (.slice Ai n ci) In, .box g13 49 #[.slice Ab Bk.length cb, .slice Ai n ci, .slice Ah Hd.length ch, .slice Ao j co, .slice none 0 0], .row kLL 26 w.heap.size (.slice Ab Bk.length cb) Bk, .row kLL 26 w.heap.size (.slice Ah Hd.length ch) Hd, .row (Kd.int .i64) 3 w.heap.size (.slice Ao j co) os])) (fun v16 _ => nn - (intOf v16).toNat)
      case atStart => exact ⟨0, [], p9, none, 0, rfl, ⟨Nat.zero_le _⟩, ⟨rfl⟩, ⟨HO9⟩⟩
      case round =>
        clear HO9
        obtain ⟨j, os, pj, Ao, co, rfl, HJ, HDR, HOO⟩ := hrel
        have HOj := HOO.out
        clear HOO
        have hpj := drawN_p s 8 p9 HP9.out j
        have hjl := drawN_length s 8 p9 j
        rw [HDR.out] at hpj hjl
        have HJL := Aside0.mk (show os.length = j from hjl)
        have HPJ := Aside0.mk hpj
        clear hpj hjl
        by_cases hj : j < nn
        case pos =>
          have q5 : ((j : Int) < (nn : Int)) = True := eq_true (by omega)
          have hjb : (j : Int) + 1 ≤ 1000 := by have := HNN.out; omega
          obtain ⟨v, pj1, hm, ⟨vl, vh⟩, hpj1⟩ := nextF_all s pj 8 HPJ.out (by decide)
          have HM := Aside0.mk hm
          have HDR2 := Aside0.mk (show drawN s 8 p9 (j + 1) = (os ++ [v], pj1) by simp only [drawN, HDR.out, hm])
          have HJN := Aside0.mk hj
          have x1 := HOj.box_cell 5 rfl 3 rfl
          clear hm vl vh hpj1 hj
          go_wp2
          go_region_law (first
            | (go_simp; go_at_call 60; ((try simp only [show min (9 : Int) 8 = 8 from rfl]); refine (next_calls 8 HOj.drew 1 rfl HPJ.out HSL.out (by decide) (by decide) HM.out).mono ?_; rintro e_ W_ ⟨rfl, HO1⟩; clear HOj x1; have x2 := HO1.box_cell 5 rfl 3 rfl; have x3 := fun o_ => (HO1.alloc o_).box_cell 5 rfl 3 rfl))
            | (refine ev_append_step (d := Kd.int .i64) 8 HO1 rfl (by rfl) (.tmp 101) (.tmp 106) 26 (.int .i64 0) 8 rfl Try.underlying26 info3 rfl (by decide) (by decide) v [.int .i64 v] rfl rfl rfl ?_ ?_; (have := HJL.out; have := HNN.out; have := HJN.out; omega); intro A5 c5 W5 HO5; clear HO1 x2 x3; have x5 := HO5.box_cell 5 rfl 3 rfl; have f5 := HO5.box_free 5 rfl 3))
          all_goals
            have HO6 := HO5.put 5 rfl 3 (.slice A5 (os.length + 1) c5) (by simp) rfl
            rw [HJL.out] at HO6
            rw [HJL.out]
            go_wp2
            go_roundw
            case rel => exact ⟨j + 1, _, pj1, A5, c5, by go_num, ⟨HJN.out⟩, HDR2, ⟨HO6⟩⟩
            case measure => have := HJN.out; simp [intOf]; omega
        case neg =>
          have hjn : j = nn := by have := HJ.out; omega
          have q5 : ¬ ((j : Int) < (nn : Int)) := by omega
          have HAF := Aside0.mk (show actF s kk n pH = (os, [], pj) by
            have e9 := HDR.out
            rw [hjn] at e9
            unfold actF; rw [HN6.out]; dsimp only; rw [if_pos (by have := HK2.out; omega), HN7.out]; dsimp only; rw [if_neg HQ.out, Int.toNat_natCast, e9])
          have HOt := HOj.newrow k60 60
          clear HOj hj hjn
          have x10 := HOt.box_cell 2 rfl 0 rfl
          have z0 := HOt.box_cell 5 rfl 0 rfl
          have z1 := HOt.box_cell 5 rfl 1 rfl
          have z2 := HOt.box_cell 5 rfl 2 rfl
          have z3 := HOt.box_cell 5 rfl 3 rfl
          have z4 := HOt.box_cell 5 rfl 4 rfl
          go_wp2_with (first
            | ((with_reducible refine gate_builtin (b := .append) (xs := #[.tmp 110, .tmp 112]) rfl ?_); at_builtin; (have HV := HOt.rule 6 4 7 8 9 rfl rfl rfl rfl rfl rfl rfl rfl rfl (by decide); refine ev_appendv 3 4 (by decide) HV rfl rfl rfl (.tmp 110) (.tmp 112) 22 (.agg #[.slice none 0 0, .slice none 0 0, .slice none 0 0, .slice none 0 0, .slice none 0 0]) 120 rfl Try.underlying22 info49 rfl (by decide) (by decide) rfl rfl ?aL ?_); (case aL => have := HOL.out; have := HLT.out; have := HMM.out; omega); intro A20 c20 W20 HO20; clear HV HOt x10 z0 z1 z2 z3 z4; rw [HOL.out] at HO20; have x20 := HO20.box_cell 2 rfl 0 rfl; have f20 := HO20.box_free 2 rfl 0))
          try rw [HOL.out]
          have HO21 := (HO20.put 2 rfl 0 (.slice A20 (k + 1) c20) (by simp) rfl).upto 4
          go_roundw
          case rel => exact ⟨k + 1, _, pj, A20, c20, by go_num, ⟨HLT.out⟩, ⟨HRU.out os [] pj HAF.out⟩, ⟨HO21⟩⟩
          case measure => have := HLT.out; simp [intOf]; omega
    have g3 : (qv == 0) = true := beq_iff_eq.mpr hq
    have HQ := Aside0.mk hq
    clear hq
    go_wp2_with (first
      | (go_at_call 60; (refine (next_calls 4 HOH 1 rfl HPH.out HSL.out (by decide) (by decide) HN6.out).mono ?_; rintro e_ W_ ⟨rfl, HOq⟩; clear HOH))
      | (go_at_call 60; (refine (next_calls 2 HOq 1 rfl HP8.out HSL.out (by decide) (by decide) HN7.out).mono ?_; rintro e_ W_ ⟨rfl, HOr⟩; clear HOq)))
    have HO9 := HOr.newrow k60 60
    clear HOr
    go_loopw [15] (fun v15 w' => ∃ (j : Nat) (os : List S60) (pj : Int) (Ao : Option Addr) (co : Nat), v15 = .int .i64 j ∧ Aside0 (j ≤ nn % 2 + 1) ∧ Aside0 (callsN s kk n p9 j = (os, pj)) ∧ Aside0 (Own w w' [.box g8 24 #[.slice none 0 0], .drw w g9 s pj, .box g10 24 #[.slice A10 k c10], .row k49 49 w.heap.size (.slice A10 k c10) out, .row kLL 26 w.heap.size (.slice Ai n ci) In, .box g13 49 #[.slice Ab Bk.length cb, .slice Ai n ci, .slice Ah Hd.length ch, .slice none 0 0, .slice Ao j co], .row kLL 26 w.heap.size (.slice Ab Bk.length cb) Bk, .row kLL 26 w.heap.size (.slice Ah Hd.length ch) Hd, .row k60 60 w.heap.size (.slice Ao j co) os])) (fun v15 _ => nn % 2 + 1 - (intOf v15).toNat)
    case atStart => exact ⟨0, [], p9, none, 0, rfl, ⟨Nat.zero_le _⟩, ⟨rfl⟩, ⟨HO9⟩⟩
    case round =>
      clear HO9
      obtain ⟨j, os, pj, Ao, co, rfl, HJ, HDR, HOO⟩ := hrel
      have HOj := HOO.out
      clear HOO
      have hpj := callsN_p s kk n p9 HP9.out j
      have hjl := callsN_length s kk n p9 j
      rw [HDR.out] at hpj hjl
      have HJL := Aside0.mk (show os.length = j from hjl)
      have HPJ := Aside0.mk hpj
      clear hpj hjl
      have htm : Int.tmod (nn : Int) 2 = ((nn % 2 : Nat) : Int) := by rw [Int.tmod_eq_emod_of_nonneg (by omega)]; omega
      have HTM := Aside0.mk htm
      by_cases hj : j < nn % 2 + 1
      case pos =>
        have q5 : ((j : Int) ≤ (nn : Int) % 2) = True := eq_true (by omega)
        have q6 : decide ((j : Int) ≤ (nn : Int) % 2) = true := decide_eq_true (by omega)
        have hjb : (j : Int) + 1 ≤ 1000 := by omega
        obtain ⟨v, pj1, hm, ⟨vl, vh⟩, hpj1⟩ := nextF_all s pj n HPJ.out (by have := HNB.out; omega)
        obtain ⟨x, pj2, hm2, ⟨xl, xh⟩, hpj2⟩ := nextF_all s pj1 (2 - kk) hpj1 (by have := HK2.out; omega)
        have HM := Aside0.mk hm
        have HM2 := Aside0.mk hm2
        have HPJ1 := Aside0.mk hpj1
        have HDR2 := Aside0.mk (show callsN s kk n p9 (j + 1) = (os ++ [⟨v, kk + 1 + x⟩], pj2) by simp only [callsN, HDR.out, hm, hm2])
        have HJN := Aside0.mk hj
        have HW3 := Aside0.mk (show IntKind.i64.wrap (3 - (kk : Int)) = 3 - kk ∧ IntKind.i64.wrap (3 - (kk : Int) - 1) = 2 - kk ∧ IntKind.i64.wrap (IntKind.i64.wrap ((kk : Int) + 1) + x) = kk + 1 + x from ⟨IntWalk.i64_in _ (by omega), (IntWalk.i64_in _ (by omega)).trans (by omega), by rw [IntWalk.i64_in ((kk : Int) + 1) (by omega), IntWalk.i64_in _ (by omega)]⟩)
        have HNN1 := Aside0.mk (show (0 : Int) < n ∧ (n : Int) ≤ 1000000000 from by have := HNB.out; omega)
        have HNN2 := Aside0.mk (show (0 : Int) < 2 - kk ∧ (2 : Int) - kk ≤ 1000000000 from by have := HK2.out; omega)
        have x1 := HOj.box_cell 5 rfl 4 rfl
        have y1 := HOj.box_cell 5 rfl 1 rfl
        clear hm hm2 vl vh hpj1 hj xl xh hpj2 htm
        go_wp2
        go_region_law (first
          | (refine ev_append_step (d := k60) 8 HO2 rfl (by rfl) (.tmp 76) (.tmp 92) 47 (.agg #[.int .i64 0, .int .i64 0]) 16 rfl Try.underlying47 info60 rfl (by decide) (by decide) (⟨v, IntKind.i64.wrap (IntKind.i64.wrap ((kk : Int) + 1) + x)⟩ : S60) [.int .i64 v, .int .i64 (IntKind.i64.wrap (IntKind.i64.wrap ((kk : Int) + 1) + x))] rfl rfl (k60_mkM _ _ _ _) ?_ ?_; (have := HJL.out; have := HNN.out; have := HJN.out; omega); intro A5 c5 W5 HO5; clear HO2 x4 x3; have x5 := HO5.box_cell 5 rfl 4 rfl; have f5 := HO5.box_free 5 rfl 4)
          | (go_simp; go_at_call 60; first
              | (refine (next_calls n HOj.drew 1 rfl HPJ.out HSL.out HNN1.out.1 HNN1.out.2 HM.out).mono ?_; rintro e_ W_ ⟨rfl, HO1⟩; clear HOj x1 y1; have x2 := HO1.box_cell 5 rfl 4 rfl; have y2 := HO1.box_cell 5 rfl 1 rfl)
              | ((try simp only [HW3.out.1, HW3.out.2.1]); refine (next_calls (2 - kk) HO1 1 rfl HPJ1.out HSL.out HNN2.out.1 HNN2.out.2 HM2.out).mono ?_; rintro e_ W_ ⟨rfl, HO2⟩; clear HO1 x2 y2; have x4 := HO2.box_cell 5 rfl 4 rfl; have x3 := fun o_ => (HO2.alloc o_).box_cell 5 rfl 4 rfl)))
        all_goals
          have HO6 := HO5.put 5 rfl 4 (.slice A5 (os.length + 1) c5) (by simp) rfl
          rw [HW3.out.2.2, HJL.out] at HO6
          rw [HJL.out]
          go_wp2
          go_roundw
          case rel => exact ⟨j + 1, _, pj2, A5, c5, by go_num, ⟨by have := HJN.out; omega⟩, HDR2, ⟨HO6⟩⟩
          case measure => have := HJN.out; simp [intOf]; omega
      case neg =>
        have hjn : j = nn % 2 + 1 := by have := HJ.out; omega
        have q5 : ¬ ((j : Int) ≤ (nn : Int) % 2) := by omega
        have q6 : decide ((j : Int) ≤ (nn : Int) % 2) = false := decide_eq_false q5
        have HAF := Aside0.mk (show actF s kk n pH = ([], os, pj) by
          have e9 := HDR.out
          rw [hjn] at e9
          unfold actF; rw [HN6.out]; dsimp only; rw [if_pos (by have := HK2.out; omega), HN7.out]; dsimp only; rw [if_pos HQ.out, show ((nn : Int) % 2 + 1).toNat = nn % 2 + 1 by omega, e9])
        have HOt := HOj.newrow (Kd.int .i64) 3
        clear HOj hj hjn htm
        have x10 := HOt.box_cell 2 rfl 0 rfl
        have z0 := HOt.box_cell 5 rfl 0 rfl
        have z1 := HOt.box_cell 5 rfl 1 rfl
        have z2 := HOt.box_cell 5 rfl 2 rfl
        have z3 := HOt.box_cell 5 rfl 3 rfl
        have z4 := HOt.box_cell 5 rfl 4 rfl
        go_wp2_with (first
          | ((with_reducible refine gate_builtin (b := .append) (xs := #[.tmp 110, .tmp 112]) rfl ?_); at_builtin; (have HV := HOt.rule 6 4 7 9 8 rfl rfl rfl rfl rfl rfl rfl rfl rfl (by decide); refine ev_appendv 3 4 (by decide) HV rfl rfl rfl (.tmp 110) (.tmp 112) 22 (.agg #[.slice none 0 0, .slice none 0 0, .slice none 0 0, .slice none 0 0, .slice none 0 0]) 120 rfl Try.underlying22 info49 rfl (by decide) (by decide) rfl rfl ?aL ?_); (case aL => have := HOL.out; have := HLT.out; have := HMM.out; omega); intro A20 c20 W20 HO20; clear HV HOt x10 z0 z1 z2 z3 z4; rw [HOL.out] at HO20; have x20 := HO20.box_cell 2 rfl 0 rfl; have f20 := HO20.box_free 2 rfl 0))
        try rw [HOL.out]
        have HO21 := (HO20.put 2 rfl 0 (.slice A20 (k + 1) c20) (by simp) rfl).upto 4
        go_roundw
        case rel => exact ⟨k + 1, _, pj, A20, c20, by go_num, ⟨HLT.out⟩, ⟨HRU.out [] os pj HAF.out⟩, ⟨HO21⟩⟩
        case measure => have := HLT.out; simp [intOf]; omega
end Go.Proofs.Ytlgkeaildncojaa.Q
end
section
/- MadeAll: three right lookups that numbers make. Printed by genMl.py. -/
namespace Go.Proofs.Ytlgkeaildncojaa.Q
open Go.RowKit Go.Shelf Go.Proofs.YtlgkeaildncojaaW.PrintWords Go.Proofs.YtlgkeaildncojaaW.PrintLast Go.Proofs.YtlgkeaildncojaaW.PrintMore
set_option linter.unusedSimpArgs false
set_option linter.unusedVariables false
def madeN (l : List (List Int)) (n : Nat) : List S24 := (List.range n).map fun k => madeF (l.getD k []) k
def madeAll (l : List (List Int)) : List S24 := madeN l 3
theorem madeN_succ (l : List (List Int)) (n : Nat) : madeN l (n + 1) = madeN l n ++ [madeF (l.getD n []) n] := by simp [madeN, List.range_succ]
theorem madeN_length (l : List (List Int)) (n : Nat) : (madeN l n).length = n := by simp [madeN]
theorem at_LI {w : World} {A : Option Addr} {n : Nat} {xs : List (List Int)} (h : Kd.C (Kd.slice 3 (Kd.int .i64)) w A n xs) (i : Int) (h0 : 0 ≤ i) (h1 : i < n) : ∃ ad A0 c0, A = some ad ∧ w.cell? (ad.add i.toNat) = some (.slice A0 (xs.getD i.toNat []).length c0) ∧ (xs.getD i.toNat []).length ≤ c0 ∧ (Kd.int .i64).C w A0 (xs.getD i.toNat []).length (xs.getD i.toNat []) := by
  obtain ⟨ad, c, e, _, hK, hc0⟩ := Kd.C_get h ([] : List Int) i h0 h1
  have hc : ∀ j u, c[j]? = some u → w.cell? (ad.add (i.toNat * 1 + j)) = some u := hc0
  obtain ⟨A0, c0, rfl, l0, g0⟩ := hK
  exact ⟨ad, A0, c0, e, by have hq := hc 0 _ rfl; rwa [Nat.mul_one, Nat.add_zero] at hq, l0, g0⟩
set_option maxRecDepth 100000 in
set_option maxHeartbeats 4000000 in
theorem madeall_calls (A : Option Addr) (c : Nat) (l : List (List Int)) (w : World) (hr : Kd.C (Kd.slice 3 (Kd.int .i64)) w A l.length l) (hc : l.length ≤ c) (hll : ∀ s ∈ l, s.length ≤ 9223372036854775807) :
    Calls Try.prog 31 #[.slice A l.length c, .int .i64 3, .int .i64 9] w fun e w' => ∃ v, e = .returned v ∧ Kd.R k24 24 w' w.heap.size (fun _ => True) v (madeAll l) ∧ Below w.heap.size w w' := by
  have HR := Aside0.mk hr
  have HLL := Aside0.mk hll
  have hlm : (l.length : Int) ≤ 9223372036854775807 := by have := Kd.C_max hr; omega
  have HO := (Own.start w).newrow k24 24
  clear hr hc hll
  go_enter Try.func31, Try.ntmps31
  go_wp2
  go_loopw [7, 8, 9] (fun v7 v8 v9 w' => ∃ (k : Nat) (out : List S24) (A7 : Option Addr) (c7 : Nat), v8 = .int .i64 k ∧ v7 = .slice A7 k c7 ∧ Aside0 (k ≤ 3) ∧ Aside0 (madeN l k = out) ∧ Aside0 (Own w w' [.row k24 24 w.heap.size (.slice A7 k c7) out])) (fun _ v8 _ _ => 3 - (intOf v8).toNat)
  case atStart => exact ⟨0, [], none, 0, rfl, rfl, ⟨Nat.zero_le _⟩, ⟨rfl⟩, ⟨HO⟩⟩
  case round =>
    clear HO
    obtain ⟨k, out, A7, c7, rfl, rfl, HK, HMD, HOO⟩ := hrel
    have HO := HOO.out
    clear HOO
    by_cases h3 : k < 3
    case neg =>
      have e3 : k = 3 := by have := HK.out; omega
      subst e3
      have HF := Aside0.mk (show madeAll l = out from HMD.out)
      clear h3
      go_wp2
      go_ret
      exact ⟨_, rfl, by rw [HF.out]; exact HO.row_R 0 rfl, HO.below⟩
    have q1 : ((k : Int) < 3) = True := eq_true (by omega)
    have hkb : (k : Int) + 1 ≤ 1000 := by omega
    have HOL := Aside0.mk (show out.length = k by rw [← HMD.out, madeN_length])
    have HK3 := Aside0.mk (show k ≤ 2 by omega)
    have HNX := Aside0.mk (show madeN l (k + 1) = out ++ [⟨(madeF (l.getD k []) k).f0⟩] by rw [madeN_succ, HMD.out])
    clear h3
    by_cases hlt : k < l.length
    case pos =>
      have q2 : ((k : Int) < (l.length : Int)) = True := eq_true (by omega)
      have p1 : (0 ≤ (k : Int)) = True := eq_true (by omega)
      obtain ⟨ad, A0, c0, rfl, x0, y0, y1⟩ := at_LI HR.out (k : Int) (by omega) (by omega)
      rw [Int.toNat_natCast] at x0 y0 y1
      replace x0 := pw_cell_below HO.below x0
      have HSL := Aside0.mk (HLL.out (l.getD k []) (by rw [List.getD_eq_getElem?_getD, List.getElem?_eq_getElem hlt]; exact List.getElem_mem _))
      have HY := Aside0.mk (And.intro y0 y1)
      obtain ⟨s, hs⟩ : ∃ s, l.getD k [] = s := ⟨_, rfl⟩
      rw [hs] at x0 HSL HNX HY
      clear hs y0 y1 hlt
      go_wp2_with (first
        | (go_at_call 43; (refine (made_calls A0 c0 s k _ (HO.old HY.out.2) HY.out.1 HSL.out HK3.out).mono ?_; rintro e_ W5 ⟨v5, rfl, hR5, hb5⟩; have HO5 := HO.called hb5 hR5; clear HO hR5 hb5))
        | ((with_reducible refine gate_builtin (b := .append) (xs := #[.tmp 23, .tmp 29]) rfl ?_); at_builtin; (have HV := HO5.say 1 (r' := .val k24 w.heap.size (⟨(madeF s k).f0⟩ : S24) [v5]) rfl (fun ok h_ => k24_mkM _ _ _ (⟨(madeF s k).f0⟩ : S24) h_); refine ev_appendv 0 1 (by decide) HV rfl rfl rfl (.tmp 23) (.tmp 29) 32 (.agg #[.slice none 0 0]) 24 rfl Try.underlying32 info24 rfl (by decide) (by decide) rfl rfl ?aL ?_); (case aL => have := HOL.out; have := HK3.out; omega); intro A9 c9 W9 HO9; clear HV HO5))
      try rw [HOL.out]
      rw [HOL.out] at HO9
      go_roundw
      case rel => exact ⟨k + 1, _, A9, c9, by go_num, rfl, ⟨by have := HK3.out; omega⟩, HNX, ⟨HO9.upto 1⟩⟩
      case measure => have := HK3.out; simp [intOf]; omega
    case neg =>
      have q2 : ¬ ((k : Int) < (l.length : Int)) := by omega
      rw [show l.getD k [] = [] by rw [List.getD_eq_getElem?_getD, List.getElem?_eq_none (by omega)]; rfl] at HNX
      clear hlt
      go_wp2_with (first
        | (go_at_call 43; (refine (made_calls none 0 [] k _ (Kd.C_nil _ _) (Nat.le_refl _) (by simp) HK3.out).mono ?_; rintro e_ W5 ⟨v5, rfl, hR5, hb5⟩; have HO5 := HO.called hb5 hR5; clear HO hR5 hb5))
        | ((with_reducible refine gate_builtin (b := .append) (xs := #[.tmp 23, .tmp 29]) rfl ?_); at_builtin; (have HV := HO5.say 1 (r' := .val k24 w.heap.size (⟨(madeF [] k).f0⟩ : S24) [v5]) rfl (fun ok h_ => k24_mkM _ _ _ (⟨(madeF [] k).f0⟩ : S24) h_); refine ev_appendv 0 1 (by decide) HV rfl rfl rfl (.tmp 23) (.tmp 29) 32 (.agg #[.slice none 0 0]) 24 rfl Try.underlying32 info24 rfl (by decide) (by decide) rfl rfl ?aL ?_); (case aL => have := HOL.out; have := HK3.out; omega); intro A9 c9 W9 HO9; clear HV HO5))
      try rw [HOL.out]
      rw [HOL.out] at HO9
      go_roundw
      case rel => exact ⟨k + 1, _, A9, c9, by go_num, rfl, ⟨by have := HK3.out; omega⟩, HNX, ⟨HO9.upto 1⟩⟩
      case measure => have := HK3.out; simp [intOf]; omega
end Go.Proofs.Ytlgkeaildncojaa.Q
end
section
/- Plain laws of rules: what an applied rule leaves of items; how many tries; that it ends. -/
namespace Go.Proofs.Ytlgkeaildncojaa.Q
open Go.RowKit Go.Shelf Go.Proofs.YtlgkeaildncojaaW.PrintWords Go.Proofs.YtlgkeaildncojaaW.PrintLast Go.Proofs.YtlgkeaildncojaaW.PrintMore
set_option linter.unusedSimpArgs false
set_option linter.unusedVariables false
theorem getD_app {α : Type} (l1 l2 : List α) (i : Nat) (z : α) : (l1 ++ l2).getD i z = if i < l1.length then l1.getD i z else l2.getD (i - l1.length) z := by
  simp only [List.getD_eq_getElem?_getD, List.getElem?_append]
  split <;> rfl
theorem getD_drop' {α : Type} (l : List α) (j i : Nat) (z : α) : (l.drop j).getD i z = l.getD (j + i) z := by
  simp only [List.getD_eq_getElem?_getD, List.getElem?_drop]
theorem getD_mem' {α : Type} (l : List α) (i : Nat) (z : α) (h : i < l.length) : l.getD i z ∈ l := by
  rw [List.getD_eq_getElem?_getD, List.getElem?_eq_getElem h]
  exact List.getElem_mem h
/-- Items between a and j have turned into others of their cluster, up to e. -/
def Gm (its0 its : List S55) (a : Nat) (e : Int) (c : Int) (lo : Nat) : Prop :=
  ∃ (mid : List S55) (j : Nat), its = its0.take a ++ (mid ++ its0.drop j) ∧ e = ((a + mid.length : Nat) : Int) ∧ lo ≤ j ∧ a ≤ j ∧ j ≤ its0.length ∧ (∀ i, a ≤ i → i < j → (its0.getD i z55).f1 = c) ∧ ∀ x ∈ mid, x.f1 = c
theorem mx_r {a b : Int} (h : a ≤ b) : mx a b = b := by
  unfold mx
  split <;> omega
theorem mx_l {a b : Int} (h : b ≤ a) : mx a b = a := by
  unfold mx
  split <;> omega
theorem inP_all (its : List S55) (c : Int) : ∀ (l : List (List Int)) (i : Nat), inP its c i l = true → ∀ q, i ≤ q → q < i + l.length → (its.getD q z55).f1 = c
  | [], i, _, q, h1, h2 => by simp at h2; omega
  | s :: t, i, h, q, h1, h2 => by
    unfold inP at h
    split at h
    · rename_i hc
      split at h
      · rcases Nat.eq_or_lt_of_le h1 with rfl | h3
        · exact hc
        · exact inP_all its c t (i + 1) h q (by omega) (by simp at h2; omega)
      · cases h
    · cases h
theorem match_clu {r : S49} {its : List S55} {a : Nat} (h : matchP r its (a : Int) = true) : ∀ q, a ≤ q → q < a + r.f1.length → (its.getD q z55).f1 = (its.getD a z55).f1 := by
  unfold matchP at h
  split at h
  · cases h
  · rw [Bool.and_eq_true, Int.toNat_natCast] at h
    exact inP_all its _ r.f1 a h.1
theorem Gm.put {its : List S55} {a : Nat} {r : S49} (h : matchP r its (a : Int) = true) : Gm its (putF its a r) a ((a + r.f3.length : Nat) : Int) (its.getD a z55).f1 (a + r.f1.length) := by
  have h1 := match_in h
  refine ⟨r.f3.map (fun gl => (⟨gl, (its.getD a z55).f1⟩ : S55)), a + r.f1.length, rfl, by rw [List.length_map], Nat.le_refl _, by omega, by omega, match_clu h, fun x hx => ?_⟩
  obtain ⟨g, _, rfl⟩ := List.mem_map.mp hx
  rfl
theorem Gm.start {r : S49} {its : List S55} {a : Nat} (h : matchP r its (a : Int) = true) : Gm its its a ((a : Int) + (r.f1.length : Int)) (its.getD a z55).f1 (a + r.f1.length) := by
  have h1 := match_in h
  refine ⟨(its.drop a).take r.f1.length, a + r.f1.length, ?_, ?_, Nat.le_refl _, by omega, by omega, match_clu h, fun x hx => ?_⟩
  · rw [show its.drop (a + r.f1.length) = (its.drop a).drop r.f1.length by rw [List.drop_drop], List.take_append_drop, List.take_append_drop]
  · rw [List.length_take, List.length_drop]; omega
  · obtain ⟨i, hi, rfl⟩ := List.getElem_of_mem hx
    rw [List.length_take, List.length_drop] at hi
    have h2 := match_clu h (a + i) (by omega) (by omega)
    rw [List.getD_eq_getElem?_getD, List.getElem?_eq_getElem (by omega)] at h2
    rw [List.getElem_take, List.getElem_drop]
    exact h2
theorem Gm.step {its0 its its2 : List S55} {a p : Nat} {e x c : Int} {lo n : Nat} (h : Gm its0 its a e c lo) (ha : a ≤ its0.length) (hp : a ≤ p) (hpe : (p : Int) < e) (h2 : Gm its its2 p x (its.getD p z55).f1 (p + n)) (hn : 0 < n) :
    Gm its0 its2 a (nextE e (p : Int) n x its2.length its.length) c lo := by
  obtain ⟨mid, j, rfl, rfl, k1, k2, k3, k4, k5⟩ := h
  obtain ⟨mid', j', rfl, rfl, m1, m2, m3, m4, m5⟩ := h2
  have ht : (its0.take a).length = a := by rw [List.length_take]; omega
  obtain ⟨i, rfl⟩ : ∃ i, p = a + i := ⟨p - a, by omega⟩
  have hi : i < mid.length := by omega
  have hlen : (its0.take a ++ (mid ++ its0.drop j)).length = a + (mid.length + (its0.length - j)) := by simp [ht]
  have hcp : ((its0.take a ++ (mid ++ its0.drop j)).getD (a + i) z55).f1 = c := by
    rw [getD_app, if_neg (by omega), ht, getD_app, if_pos (by omega), show a + i - a = i by omega]
    exact k5 _ (getD_mem' _ _ _ hi)
  rw [hcp] at m4 m5
  rw [hlen] at m3
  have htp : (its0.take a ++ (mid ++ its0.drop j)).take (a + i) = its0.take a ++ mid.take i := by
    rw [List.take_append, ht, List.take_of_length_le (by omega), show a + i - a = i by omega, List.take_append, show i - mid.length = 0 by omega]
    simp
  rw [htp]
  by_cases hj : j' ≤ a + mid.length
  · have hd : (its0.take a ++ (mid ++ its0.drop j)).drop j' = mid.drop (j' - a) ++ its0.drop j := by
      rw [List.drop_append, ht, List.drop_of_length_le (by omega), List.drop_append, show j' - a - mid.length = 0 by omega]
      simp
    rw [hd]
    refine ⟨mid.take i ++ (mid' ++ mid.drop (j' - a)), j, by simp, ?_, k1, k2, k3, k4, fun y hy => ?_⟩
    · unfold nextE
      rw [if_neg (by omega), mx_l]
      · simp only [List.length_append, List.length_take, List.length_drop, Nat.min_def]
        split <;> split <;> omega
      · simp only [List.length_append, List.length_take, List.length_drop, Nat.min_def]
        split <;> split <;> omega
    · rcases List.mem_append.mp hy with h | h
      · exact k5 _ (List.mem_of_mem_take h)
      · rcases List.mem_append.mp h with h | h
        · exact m5 _ h
        · exact k5 _ (List.mem_of_mem_drop h)
  · have hd : (its0.take a ++ (mid ++ its0.drop j)).drop j' = its0.drop (j + (j' - a - mid.length)) := by
      rw [List.drop_append, ht, List.drop_of_length_le (by omega), List.drop_append, List.drop_of_length_le (by omega), List.drop_drop]
      rfl
    rw [hd]
    refine ⟨mid.take i ++ mid', j + (j' - a - mid.length), by simp, ?_, by omega, by omega, by omega, fun q hq1 hq2 => ?_, fun y hy => ?_⟩
    · have e1 : ((a + i + mid'.length : Nat) : Int) = ((a + (mid.take i ++ mid').length : Nat) : Int) := by
        simp only [List.length_append, List.length_take]; omega
      unfold nextE
      split
      · exact e1
      · rw [mx_r, e1]
        simp only [List.length_append, List.length_take, List.length_drop, Nat.min_def]
        split <;> split <;> omega
    · rcases Nat.lt_or_ge q j with h | h
      · exact k4 q hq1 h
      · have h3 := m4 (a + mid.length + (q - j)) (by omega) (by omega)
        rw [getD_app, if_neg (by omega), ht, getD_app, if_neg (by omega), getD_drop', show j + (a + mid.length + (q - j) - a - mid.length) = q by omega] at h3
        exact h3
    · rcases List.mem_append.mp hy with h | h
      · exact k5 _ (List.mem_of_mem_take h)
      · exact m5 _ h
theorem Gm.len {its0 its : List S55} {a : Nat} {e c : Int} {lo : Nat} (h : Gm its0 its a e c lo) (ha : a ≤ its0.length) : (a : Int) ≤ e ∧ e ≤ (its.length : Int) ∧ (its.length : Int) - e + (lo : Int) ≤ (its0.length : Int) := by
  obtain ⟨mid, j, rfl, rfl, k1, k2, k3, -, -⟩ := h
  simp only [List.length_append, List.length_take, List.length_drop]
  omega
/-- Rules whose calls go to later lookups. -/
def Up (n k : Nat) (r : S49) : Prop := ∀ c ∈ r.f4, 0 ≤ c.f0 ∧ (k : Int) < c.f1 ∧ c.f1 < (n : Int)
def UpAll (all : List S24) (k : Nat) : Prop := ∀ i, k ≤ i → i < all.length → ∀ y ∈ (all.getD i z24).f0, Up all.length i y
/-- The most tries of an applied rule. -/
def Bq (m q : Nat) : Nat → Nat
  | 0 => 0
  | d + 1 => q * (m + Bq m q d)
/-- What comes of an applied rule. -/
def Fine (its0 : List S55) (a : Nat) (c : Int) (lo wk B : Nat) (y : Int × Int × List S55 × Nat) : Prop :=
  (y.1 = 0 ∨ y.1 = 2 ∨ y.1 = 34) ∧ (y.1 = 34 → 6000 < wk + B) ∧ (y.1 = 0 → y.2.2.1.length ≤ 200 ∧ y.2.2.2 ≤ 6001 ∧ y.2.2.2 ≤ wk + B ∧ Gm its0 y.2.2.1 a y.2.1 c lo)
theorem UpAll.mono {all : List S24} {k k' : Nat} (h : UpAll all k) (hk : k ≤ k') : UpAll all k' := fun i hi => h i (by omega)
end Go.Proofs.Ytlgkeaildncojaa.Q
end
section
/- Plain laws of rules: tries only count; lookups that are not reached do not matter; a pass ends. -/
namespace Go.Proofs.Ytlgkeaildncojaa.Q
open Go.RowKit Go.Shelf Go.Proofs.YtlgkeaildncojaaW.PrintWords Go.Proofs.YtlgkeaildncojaaW.PrintLast Go.Proofs.YtlgkeaildncojaaW.PrintMore
set_option linter.unusedSimpArgs false
set_option linter.unusedVariables false
theorem tryF_cons (its : List S55) (at_ : Int) (r : S49) (rs : List S49) (wk : Nat) : tryF its at_ (r :: rs) wk = if wk + 1 > 6000 then (34, none, wk + 1) else if matchP r its at_ = true then (0, some r, wk + 1) else tryF its at_ rs (wk + 1) := rfl
def shiftY (x : Nat) (y : Int × Int × List S55 × Nat) : Int × Int × List S55 × Nat := (y.1, y.2.1, y.2.2.1, y.2.2.2 + x)
end Go.Proofs.Ytlgkeaildncojaa.Q
end
section
-- Written by wip/tools/myprint.py, a program of this session that drives the kit's print.py; not a text of print.sh.
namespace Go.Proofs.Ytlgkeaildncojaa.Q
open Go.RowKit Go.Proofs.YtlgkeaildncojaaW.PrintWords Go.Proofs.YtlgkeaildncojaaW.PrintLast Go.Proofs.YtlgkeaildncojaaW.PrintMore
attribute [local go_sem] max2_int min2_int max_two min_two max_three min_three max_four min_four   -- for this text's walks alone
set_option linter.unusedVariables false
set_option linter.unusedSimpArgs false

/-! ### abugidaref16_SameInts: function 18 -/
def abugidaref16_SameInts.l0 : Nat → List Int → List Int → Int → Option (Bool)
  | 0, _, _, _ => none
  | k + 1, x0, x1, x5 => if x5 < (x0.length : Int) then (if 0 ≤ x5 then (if x5 < (x1.length : Int) then (if (rd x0 x5) = (rd x1 x5) then (abugidaref16_SameInts.l0 k x0 x1 (wrap64 (x5 + 1))) else (some false)) else (none)) else (none)) else (some true)
def abugidaref16_SameInts.f (k : Nat) (l0 : List Int) (l1 : List Int) : Option (Bool) := if (l0.length : Int) = (l1.length : Int) then (abugidaref16_SameInts.l0 k l0 l1 0) else (some false)
theorem abugidaref16_SameInts.mono_l : ∀ k, (∀ y0 y1 y2, LeO (abugidaref16_SameInts.l0 k y0 y1 y2) (abugidaref16_SameInts.l0 (k + 1) y0 y1 y2))
  | 0 => fun _ _ _ r h => by simp [abugidaref16_SameInts.l0] at h
  | k + 1 => by
    have ih0 := abugidaref16_SameInts.mono_l k
    · intro y0 y1 y2
      unfold abugidaref16_SameInts.l0
      repeat' first
      | (with_reducible exact ih0 _ _ _)
      | (with_reducible exact LeO.refl _)
      | (with_reducible exact LeO.none _)
      | (with_reducible refine LeO.ite ?_ ?_)
      | (with_reducible refine LeO.bind ?_ (fun _ => ?_))
      | exact ih0 _ _ _
      | exact LeO.none _
      | refine LeO.ite ?_ ?_
      | refine LeO.bind ?_ (fun _ => ?_)
theorem abugidaref16_SameInts.mono : ∀ a0 a1 k, LeO (abugidaref16_SameInts.f k a0 a1) (abugidaref16_SameInts.f (k + 1) a0 a1) := by
  intro a0 a1 k
  have ih0 := abugidaref16_SameInts.mono_l k
  unfold abugidaref16_SameInts.f
  repeat' first
      | (with_reducible exact ih0 _ _ _)
      | (with_reducible exact LeO.refl _)
      | (with_reducible exact LeO.none _)
      | (with_reducible refine LeO.ite ?_ ?_)
      | (with_reducible refine LeO.bind ?_ (fun _ => ?_))
      | exact ih0 _ _ _
      | exact LeO.none _
      | refine LeO.ite ?_ ?_
      | refine LeO.bind ?_ (fun _ => ?_)
set_option maxHeartbeats 8000000 in
set_option maxRecDepth 100000 in
theorem abugidaref16_SameInts.calls (k : Nat) (A0 : Option Addr) (c0 : Nat) (l0 : List Int) (A1 : Option Addr) (c1 : Nat) (l1 : List Int) (r : Bool) (w : World) (hr0 : Kd.C (Kd.int .i64) w A0 l0.length l0) (hc0 : l0.length ≤ c0) (hr1 : Kd.C (Kd.int .i64) w A1 l1.length l1) (hc1 : l1.length ≤ c1) (h : abugidaref16_SameInts.f k l0 l1 = some r) :
    Calls Try.prog 18 #[.slice A0 l0.length c0, .slice A1 l1.length c1] w fun e w' => e = .returned (.bool r) ∧ Drawn0 w w' := by
  have HR0 := Aside0.mk hr0
  have HC0 := Aside0.mk hc0
  clear hr0 hc0
  have HR1 := Aside0.mk hr1
  have HC1 := Aside0.mk hc1
  clear hr1 hc1
  have H : (if (l0.length : Int) = (l1.length : Int) then (abugidaref16_SameInts.l0 k l0 l1 0) else (some false)) = some r := h
  clear h
  by_cases c3 : (l0.length : Int) = (l1.length : Int)
  · rw [if_pos c3] at H
    have c3b0 : ((l0.length : Int) == (l1.length : Int)) = true := beq_iff_eq.mpr c3
    have c3b1 : ((l0.length : Int) != (l1.length : Int)) = false := bne_eq_false_iff_eq.mpr c3
    have c3b2 : (l0.length == l1.length) = true := by first | simpa using c3 | (simp at c3 ⊢; omega)
    clear c3
    have H' := Aside0.mk H
    clear H
    go_enter Try.func18, Try.ntmps18
    go_wp2
    repeat (go_quiet (fail); try go_wp2)
    go_loopg [5] k (fun kq v5 w' => ∃ (x5_1 : Int), v5 = .int .i64 x5_1 ∧ Aside0 (abugidaref16_SameInts.l0 kq l0 l1 x5_1 = some r) ∧ Aside0 (kq ≤ k) ∧ Drawn0 w w')
    case atStart => exact ⟨(0), (by first | rfl | (simp; done) | (simp [*]; done)), H', ⟨Nat.le_refl _⟩, by repeat (first | exact Drawn0.refl _ | apply Drawn0.step)⟩
    case round =>
      clear H'
      try clear c1
      try clear p2
      try clear c3
      try clear c3b0
      try clear c3b1
      try clear c3b2
      obtain ⟨x5_1, rfl, HA, HK1, ⟨m1, rfl⟩⟩ := hrel
      cases gk with
      | zero => exact absurd HA.out (by simp [abugidaref16_SameInts.l0])
      | succ k1 =>
        have H := HA.out
        clear HA
        simp only [abugidaref16_SameInts.l0] at H
        by_cases c4 : x5_1 < (l0.length : Int)
        · rw [if_pos c4] at H
          have c4b0 : decide (x5_1 < (l0.length : Int)) = true := decide_eq_true c4
          clear c4
          by_cases c5 : 0 ≤ x5_1
          · rw [if_pos c5] at H
            have c5b0 : decide (0 ≤ x5_1) = true := decide_eq_true c5
            clear c5
            by_cases c6 : x5_1 < (l1.length : Int)
            · rw [if_pos c6] at H
              have c6b0 : decide (x5_1 < (l1.length : Int)) = true := decide_eq_true c6
              clear c6
              by_cases c7 : (rd l0 x5_1) = (rd l1 x5_1)
              · rw [if_pos c7] at H
                have c7b0 : ((rd l0 x5_1) == (rd l1 x5_1)) = true := beq_iff_eq.mpr c7
                have c7b1 : ((rd l0 x5_1) != (rd l1 x5_1)) = false := bne_eq_false_iff_eq.mpr c7
                clear c7
                have H' := Aside0.mk H
                clear H
                have p114 : 0 ≤ (x5_1 : Int) := of_decide_eq_true (by first | (with_reducible assumption) | assumption)
                have q114 : x5_1 < (l0.length : Int) := of_decide_eq_true (by first | (with_reducible assumption) | assumption)
                obtain ⟨ad114, e114, hx114_0⟩ := Kd.at_int HR0.out x5_1 p114 q114
                cases e114
                replace p114 := eq_true p114
                replace q114 := eq_true q114
                have p115 : 0 ≤ (x5_1 : Int) := of_decide_eq_true (by first | (with_reducible assumption) | assumption)
                have q115 : x5_1 < (l1.length : Int) := of_decide_eq_true (by first | (with_reducible assumption) | assumption)
                obtain ⟨ad115, e115, hx115_0⟩ := Kd.at_int HR1.out x5_1 p115 q115
                cases e115
                replace p115 := eq_true p115
                replace q115 := eq_true q115
                go_wp2
                repeat (go_quiet (fail); try go_wp2)
                go_roundg k1
                case measure => have := HK1.out; omega
                case rel => exact ⟨(wrap64 (x5_1 + 1)), (by first | rfl | (simp; done) | (simp [*]; done)), H', ⟨by have := HK1.out; omega⟩, by repeat (first | exact Drawn0.refl _ | apply Drawn0.step)⟩
              · rw [if_neg c7] at H
                have c7b0 : ((rd l0 x5_1) == (rd l1 x5_1)) = false := beq_eq_false_iff_ne.mpr c7
                have c7b1 : ((rd l0 x5_1) != (rd l1 x5_1)) = true := bne_iff_ne.mpr c7
                obtain rfl := Option.some.inj H
                have p114 : 0 ≤ (x5_1 : Int) := of_decide_eq_true (by first | (with_reducible assumption) | assumption)
                have q114 : x5_1 < (l0.length : Int) := of_decide_eq_true (by first | (with_reducible assumption) | assumption)
                obtain ⟨ad114, e114, hx114_0⟩ := Kd.at_int HR0.out x5_1 p114 q114
                cases e114
                replace p114 := eq_true p114
                replace q114 := eq_true q114
                have p115 : 0 ≤ (x5_1 : Int) := of_decide_eq_true (by first | (with_reducible assumption) | assumption)
                have q115 : x5_1 < (l1.length : Int) := of_decide_eq_true (by first | (with_reducible assumption) | assumption)
                obtain ⟨ad115, e115, hx115_0⟩ := Kd.at_int HR1.out x5_1 p115 q115
                cases e115
                replace p115 := eq_true p115
                replace q115 := eq_true q115
                go_wp2
                repeat (go_quiet (fail); try go_wp2)
                go_ret
                exact ⟨by first | rfl | (simp; done) | (simp [*]; done), by repeat (first | exact Drawn0.refl _ | apply Drawn0.step)⟩
            · rw [if_neg c6] at H
              exact absurd H (by simp)
          · rw [if_neg c5] at H
            exact absurd H (by simp)
        · rw [if_neg c4] at H
          have c4b0 : decide (x5_1 < (l0.length : Int)) = false := decide_eq_false c4
          clear c4
          obtain rfl := Option.some.inj H
          go_wp2
          repeat (go_quiet (fail); try go_wp2)
          go_ret
          exact ⟨by first | rfl | (simp; done) | (simp [*]; done), by repeat (first | exact Drawn0.refl _ | apply Drawn0.step)⟩
  · rw [if_neg c3] at H
    have c3b0 : ((l0.length : Int) == (l1.length : Int)) = false := beq_eq_false_iff_ne.mpr c3
    have c3b1 : ((l0.length : Int) != (l1.length : Int)) = true := bne_iff_ne.mpr c3
    have c3b2 : (l0.length == l1.length) = false := by first | simpa using c3 | (simp at c3 ⊢; omega)
    obtain rfl := Option.some.inj H
    go_enter Try.func18, Try.ntmps18
    go_wp2
    repeat (go_quiet (fail); try go_wp2)
    go_ret
    exact ⟨by first | rfl | (simp; done) | (simp [*]; done), by repeat (first | exact Drawn0.refl _ | apply Drawn0.step)⟩

end Go.Proofs.Ytlgkeaildncojaa.Q
end
section
-- Written by wip/tools/myprint.py, a program of this session that drives the kit's print.py; not a text of print.sh.
namespace Go.Proofs.Ytlgkeaildncojaa.Q
open Go.RowKit Go.Proofs.YtlgkeaildncojaaW.PrintWords Go.Proofs.YtlgkeaildncojaaW.PrintLast Go.Proofs.YtlgkeaildncojaaW.PrintMore
attribute [local go_sem] max2_int min2_int max_two min_two max_three min_three max_four min_four   -- for this text's walks alone
set_option linter.unusedVariables false
set_option linter.unusedSimpArgs false

theorem eqA55 (d : Nat) (w : World) (x0 y0 : Int) (x1 y1 : Int) :
    (Op.equalIn (d + 2) 55 (.agg #[.int .i64 x0, .int .i64 x1]) (.agg #[.int .i64 y0, .int .i64 y1])).run Try.prog w = .ok (x0 == y0 && (x1 == y1)) w := by
  refine eqA_of Try.underlying55 (by kernel_rfl) ?_
  refine eqf_cons (by rfl) (by go_simp; rfl) (by go_simp; rfl) (by go_simp) ?_
  exact eqf_last (by rfl) (by go_simp; rfl) (by go_simp; rfl) (by go_simp)
end Go.Proofs.Ytlgkeaildncojaa.Q
end
section
-- Written by wip/tools/myprint.py, a program of this session that drives the kit's print.py; not a text of print.sh.
namespace Go.Proofs.Ytlgkeaildncojaa.Q
open Go.RowKit Go.Proofs.YtlgkeaildncojaaW.PrintWords Go.Proofs.YtlgkeaildncojaaW.PrintLast Go.Proofs.YtlgkeaildncojaaW.PrintMore
attribute [local go_sem] max2_int min2_int max_two min_two max_three min_three max_four min_four   -- for this text's walks alone
set_option linter.unusedVariables false
set_option linter.unusedSimpArgs false

/-! ### rules_Apply: function 23 (by hand) -/

def rules_Apply.f (l0 : List (S24)) (a1 : Int) (l2 : List (S55)) (l3 : List Bool) : Option (List (S55) × Int × Int) := applyO l0 a1 l2 l3
theorem rules_Apply.calls (A0 : Option Addr) (c0 : Nat) (l0 : List (S24)) (a1 : Int) (A2 : Option Addr) (c2 : Nat) (l2 : List (S55)) (A3 : Option Addr) (c3 : Nat) (l3 : List Bool) (r1 : List (S55)) (r2 : Int) (r3 : Int) (w : World) (hr0 : Kd.C k24 w A0 l0.length l0) (hc0 : l0.length ≤ c0) (hr2 : Kd.C k55 w A2 l2.length l2) (hc2 : l2.length ≤ c2) (hr3 : Kd.C Kd.bool w A3 l3.length l3) (hc3 : l3.length ≤ c3) (h : rules_Apply.f l0 a1 l2 l3 = some (r1, r2, r3)) :
    Calls Try.prog 23 #[.slice A0 l0.length c0, .int .i64 a1, .slice A2 l2.length c2, .slice A3 l3.length c3] w fun e w' => ∃ v0_ : Value, e = .returned (.tuple #[v0_, .int .i64 r2, .int .i64 r3]) ∧ Kd.R k55 55 w' w.heap.size (fun _ => True) v0_ r1 ∧ Below w.heap.size w w' :=
  apply_all A0 c0 l0 a1 A2 c2 l2 A3 c3 l3 r1 r2 r3 w hr0 hc0 hr2 hc2 hr3 hc3 h


end Go.Proofs.Ytlgkeaildncojaa.Q
end
section
-- Written by wip/tools/myprint.py, a program of this session that drives the kit's print.py; not a text of print.sh.
namespace Go.Proofs.Ytlgkeaildncojaa.Q
open Go.RowKit Go.Proofs.YtlgkeaildncojaaW.PrintWords Go.Proofs.YtlgkeaildncojaaW.PrintLast Go.Proofs.YtlgkeaildncojaaW.PrintMore
attribute [local go_sem] max2_int min2_int max_two min_two max_three min_three max_four min_four   -- for this text's walks alone
set_option linter.unusedVariables false
set_option linter.unusedSimpArgs false

attribute [local go_sem high] eqA55
/-! ### abugidaref16_Same: function 26 -/
def abugidaref16_Same.l0 : Nat → List (S55) → List (S55) → Int → Option (Bool)
  | 0, _, _, _ => none
  | k + 1, x0, x1, x5 => if x5 < (x0.length : Int) then (if 0 ≤ x5 then (if x5 < (x1.length : Int) then (if (!(((rd_T55 x0 x5).f0) == ((rd_T55 x1 x5).f0)) || (!(((rd_T55 x0 x5).f1) == ((rd_T55 x1 x5).f1)))) = true then (some false) else (abugidaref16_Same.l0 k x0 x1 (wrap64 (x5 + 1)))) else (none)) else (none)) else (some true)
def abugidaref16_Same.f (k : Nat) (l0 : List (S55)) (l1 : List (S55)) : Option (Bool) := if (l0.length : Int) = (l1.length : Int) then (abugidaref16_Same.l0 k l0 l1 0) else (some false)
theorem abugidaref16_Same.mono_l : ∀ k, (∀ y0 y1 y2, LeO (abugidaref16_Same.l0 k y0 y1 y2) (abugidaref16_Same.l0 (k + 1) y0 y1 y2))
  | 0 => fun _ _ _ r h => by simp [abugidaref16_Same.l0] at h
  | k + 1 => by
    have ih0 := abugidaref16_Same.mono_l k
    · intro y0 y1 y2
      unfold abugidaref16_Same.l0
      repeat' first
      | (with_reducible exact ih0 _ _ _)
      | (with_reducible exact LeO.refl _)
      | (with_reducible exact LeO.none _)
      | (with_reducible refine LeO.ite ?_ ?_)
      | (with_reducible refine LeO.bind ?_ (fun _ => ?_))
      | exact ih0 _ _ _
      | exact LeO.none _
      | refine LeO.ite ?_ ?_
      | refine LeO.bind ?_ (fun _ => ?_)
theorem abugidaref16_Same.mono : ∀ a0 a1 k, LeO (abugidaref16_Same.f k a0 a1) (abugidaref16_Same.f (k + 1) a0 a1) := by
  intro a0 a1 k
  have ih0 := abugidaref16_Same.mono_l k
  unfold abugidaref16_Same.f
  repeat' first
      | (with_reducible exact ih0 _ _ _)
      | (with_reducible exact LeO.refl _)
      | (with_reducible exact LeO.none _)
      | (with_reducible refine LeO.ite ?_ ?_)
      | (with_reducible refine LeO.bind ?_ (fun _ => ?_))
      | exact ih0 _ _ _
      | exact LeO.none _
      | refine LeO.ite ?_ ?_
      | refine LeO.bind ?_ (fun _ => ?_)
set_option maxHeartbeats 8000000 in
set_option maxRecDepth 100000 in
theorem abugidaref16_Same.calls (k : Nat) (A0 : Option Addr) (c0 : Nat) (l0 : List (S55)) (A1 : Option Addr) (c1 : Nat) (l1 : List (S55)) (r : Bool) (w : World) (hr0 : Kd.C k55 w A0 l0.length l0) (hc0 : l0.length ≤ c0) (hr1 : Kd.C k55 w A1 l1.length l1) (hc1 : l1.length ≤ c1) (h : abugidaref16_Same.f k l0 l1 = some r) :
    Calls Try.prog 26 #[.slice A0 l0.length c0, .slice A1 l1.length c1] w fun e w' => e = .returned (.bool r) ∧ Drawn0 w w' := by
  have hu55 := Try.underlying55
  have HR0 := Aside0.mk hr0
  have HC0 := Aside0.mk hc0
  clear hr0 hc0
  have HR1 := Aside0.mk hr1
  have HC1 := Aside0.mk hc1
  clear hr1 hc1
  have H : (if (l0.length : Int) = (l1.length : Int) then (abugidaref16_Same.l0 k l0 l1 0) else (some false)) = some r := h
  clear h
  by_cases c3 : (l0.length : Int) = (l1.length : Int)
  · rw [if_pos c3] at H
    have c3b0 : ((l0.length : Int) == (l1.length : Int)) = true := beq_iff_eq.mpr c3
    have c3b1 : ((l0.length : Int) != (l1.length : Int)) = false := bne_eq_false_iff_eq.mpr c3
    have c3b2 : (l0.length == l1.length) = true := by first | simpa using c3 | (simp at c3 ⊢; omega)
    clear c3
    have H' := Aside0.mk H
    clear H
    go_enter Try.func26, Try.ntmps26
    go_wp2
    repeat (go_quiet (fail); try go_wp2)
    go_loopg [5] k (fun kq v5 w' => ∃ (x5_1 : Int), v5 = .int .i64 x5_1 ∧ Aside0 (abugidaref16_Same.l0 kq l0 l1 x5_1 = some r) ∧ Aside0 (kq ≤ k) ∧ Drawn0 w w')
    case atStart => exact ⟨(0), (by first | rfl | (simp; done) | (simp [*]; done)), H', ⟨Nat.le_refl _⟩, by repeat (first | exact Drawn0.refl _ | apply Drawn0.step)⟩
    case round =>
      clear H'
      try clear c1
      try clear c2
      try clear p2
      try clear c3
      try clear c3b0
      try clear c3b1
      try clear c3b2
      obtain ⟨x5_1, rfl, HA, HK1, ⟨m1, rfl⟩⟩ := hrel
      cases gk with
      | zero => exact absurd HA.out (by simp [abugidaref16_Same.l0])
      | succ k1 =>
        have H := HA.out
        clear HA
        simp only [abugidaref16_Same.l0] at H
        by_cases c4 : x5_1 < (l0.length : Int)
        · rw [if_pos c4] at H
          have c4b0 : decide (x5_1 < (l0.length : Int)) = true := decide_eq_true c4
          clear c4
          by_cases c5 : 0 ≤ x5_1
          · rw [if_pos c5] at H
            have c5b0 : decide (0 ≤ x5_1) = true := decide_eq_true c5
            clear c5
            by_cases c6 : x5_1 < (l1.length : Int)
            · rw [if_pos c6] at H
              have c6b0 : decide (x5_1 < (l1.length : Int)) = true := decide_eq_true c6
              clear c6
              by_cases c7 : (!(((rd_T55 l0 x5_1).f0) == ((rd_T55 l1 x5_1).f0)) || (!(((rd_T55 l0 x5_1).f1) == ((rd_T55 l1 x5_1).f1)))) = true
              · rw [if_pos c7] at H
                have c7b0 : (!(((rd_T55 l0 x5_1).f0) == ((rd_T55 l1 x5_1).f0)) || (!(((rd_T55 l0 x5_1).f1) == ((rd_T55 l1 x5_1).f1)))) = true := c7
                clear c7
                obtain rfl := Option.some.inj H
                have p152 : 0 ≤ (x5_1 : Int) := of_decide_eq_true (by first | (with_reducible assumption) | assumption)
                have q152 : x5_1 < (l0.length : Int) := of_decide_eq_true (by first | (with_reducible assumption) | assumption)
                obtain ⟨ad152, e152, hx152_0, hx152_1⟩ := at_T55 HR0.out x5_1 p152 q152
                cases e152
                replace p152 := eq_true p152
                replace q152 := eq_true q152
                have p153 : 0 ≤ (x5_1 : Int) := of_decide_eq_true (by first | (with_reducible assumption) | assumption)
                have q153 : x5_1 < (l1.length : Int) := of_decide_eq_true (by first | (with_reducible assumption) | assumption)
                obtain ⟨ad153, e153, hx153_0, hx153_1⟩ := at_T55 HR1.out x5_1 p153 q153
                cases e153
                replace p153 := eq_true p153
                replace q153 := eq_true q153
                go_wp2
                repeat (go_quiet (fail); try go_wp2)
                go_ret
                exact ⟨by first | rfl | (simp; done) | (simp [*]; done), by repeat (first | exact Drawn0.refl _ | apply Drawn0.step)⟩
              · rw [if_neg c7] at H
                have c7b0 : (!(((rd_T55 l0 x5_1).f0) == ((rd_T55 l1 x5_1).f0)) || (!(((rd_T55 l0 x5_1).f1) == ((rd_T55 l1 x5_1).f1)))) = false := by simpa using c7
                clear c7
                have H' := Aside0.mk H
                clear H
                have p152 : 0 ≤ (x5_1 : Int) := of_decide_eq_true (by first | (with_reducible assumption) | assumption)
                have q152 : x5_1 < (l0.length : Int) := of_decide_eq_true (by first | (with_reducible assumption) | assumption)
                obtain ⟨ad152, e152, hx152_0, hx152_1⟩ := at_T55 HR0.out x5_1 p152 q152
                cases e152
                replace p152 := eq_true p152
                replace q152 := eq_true q152
                have p153 : 0 ≤ (x5_1 : Int) := of_decide_eq_true (by first | (with_reducible assumption) | assumption)
                have q153 : x5_1 < (l1.length : Int) := of_decide_eq_true (by first | (with_reducible assumption) | assumption)
                obtain ⟨ad153, e153, hx153_0, hx153_1⟩ := at_T55 HR1.out x5_1 p153 q153
                cases e153
                replace p153 := eq_true p153
                replace q153 := eq_true q153
                go_wp2
                repeat (go_quiet (fail); try go_wp2)
                go_roundg k1
                case measure => have := HK1.out; omega
                case rel => exact ⟨(wrap64 (x5_1 + 1)), (by first | rfl | (simp; done) | (simp [*]; done)), H', ⟨by have := HK1.out; omega⟩, by repeat (first | exact Drawn0.refl _ | apply Drawn0.step)⟩
            · rw [if_neg c6] at H
              exact absurd H (by simp)
          · rw [if_neg c5] at H
            exact absurd H (by simp)
        · rw [if_neg c4] at H
          have c4b0 : decide (x5_1 < (l0.length : Int)) = false := decide_eq_false c4
          clear c4
          obtain rfl := Option.some.inj H
          go_wp2
          repeat (go_quiet (fail); try go_wp2)
          go_ret
          exact ⟨by first | rfl | (simp; done) | (simp [*]; done), by repeat (first | exact Drawn0.refl _ | apply Drawn0.step)⟩
  · rw [if_neg c3] at H
    have c3b0 : ((l0.length : Int) == (l1.length : Int)) = false := beq_eq_false_iff_ne.mpr c3
    have c3b1 : ((l0.length : Int) != (l1.length : Int)) = true := bne_iff_ne.mpr c3
    have c3b2 : (l0.length == l1.length) = false := by first | simpa using c3 | (simp at c3 ⊢; omega)
    obtain rfl := Option.some.inj H
    go_enter Try.func26, Try.ntmps26
    go_wp2
    repeat (go_quiet (fail); try go_wp2)
    go_ret
    exact ⟨by first | rfl | (simp; done) | (simp [*]; done), by repeat (first | exact Drawn0.refl _ | apply Drawn0.step)⟩

/-! ### abugidalaw16_gives: function 28 -/
def abugidalaw16_gives.f (k : Nat) (l0 : List (S24)) (a1 : Int) (l2 : List (S55)) (l3 : List Bool) (a4 : Int) (l5 : List (S55)) : Option (Bool) := (rules_Apply.f l0 a1 l2 l3).bind fun bt154 => (if bt154.2.2 = 0 then (if bt154.2.1 = a4 then ((abugidaref16_Same.f k bt154.1 l5).bind fun t159 => (some t159)) else (some false)) else (some false))
theorem abugidalaw16_gives.mono : ∀ a0 a1 a2 a3 a4 a5 k, LeO (abugidalaw16_gives.f k a0 a1 a2 a3 a4 a5) (abugidalaw16_gives.f (k + 1) a0 a1 a2 a3 a4 a5) := by
  intro a0 a1 a2 a3 a4 a5 k
  unfold abugidalaw16_gives.f
  repeat' first
      | (with_reducible exact abugidaref16_Same.mono _ _ _)
      | (with_reducible exact LeO.refl _)
      | (with_reducible exact LeO.none _)
      | (with_reducible refine LeO.ite ?_ ?_)
      | (with_reducible refine LeO.bind ?_ (fun _ => ?_))
      | exact abugidaref16_Same.mono _ _ _
      | exact LeO.none _
      | refine LeO.ite ?_ ?_
      | refine LeO.bind ?_ (fun _ => ?_)
set_option maxHeartbeats 8000000 in
set_option maxRecDepth 100000 in
theorem abugidalaw16_gives.calls (k : Nat) (A0 : Option Addr) (c0 : Nat) (l0 : List (S24)) (a1 : Int) (A2 : Option Addr) (c2 : Nat) (l2 : List (S55)) (A3 : Option Addr) (c3 : Nat) (l3 : List Bool) (a4 : Int) (A5 : Option Addr) (c5 : Nat) (l5 : List (S55)) (r : Bool) (w : World) (hr0 : Kd.C k24 w A0 l0.length l0) (hc0 : l0.length ≤ c0) (hr2 : Kd.C k55 w A2 l2.length l2) (hc2 : l2.length ≤ c2) (hr3 : Kd.C Kd.bool w A3 l3.length l3) (hc3 : l3.length ≤ c3) (hr5 : Kd.C k55 w A5 l5.length l5) (hc5 : l5.length ≤ c5) (h : abugidalaw16_gives.f k l0 a1 l2 l3 a4 l5 = some r) :
    Calls Try.prog 28 #[.slice A0 l0.length c0, .int .i64 a1, .slice A2 l2.length c2, .slice A3 l3.length c3, .int .i64 a4, .slice A5 l5.length c5] w fun e w' => e = .returned (.bool r) ∧ Below w.heap.size w w' := by
  have HR0 := Aside0.mk hr0
  have HC0 := Aside0.mk hc0
  clear hr0 hc0
  have HR2 := Aside0.mk hr2
  have HC2 := Aside0.mk hc2
  clear hr2 hc2
  have HR3 := Aside0.mk hr3
  have HC3 := Aside0.mk hc3
  clear hr3 hc3
  have HR5 := Aside0.mk hr5
  have HC5 := Aside0.mk hc5
  clear hr5 hc5
  have HB := Aside0.mk (Below.refl w.heap.size w)
  have H : ((rules_Apply.f l0 a1 l2 l3).bind fun bt154 => (if bt154.2.2 = 0 then (if bt154.2.1 = a4 then ((abugidaref16_Same.f k bt154.1 l5).bind fun t159 => (some t159)) else (some false)) else (some false))) = some r := h
  clear h
  replace H := Option.bind_eq_some_iff.mp H
  obtain ⟨⟨t154, t155, t156⟩, A70, H⟩ := H
  replace H : (if t156 = 0 then (if t155 = a4 then ((abugidaref16_Same.f k t154 l5).bind fun t159 => (some t159)) else (some false)) else (some false)) = some r := H
  have A7 := Aside0.mk A70
  clear A70
  by_cases c8 : t156 = 0
  · rw [if_pos c8] at H
    have c8b0 : (t156 == 0) = true := beq_iff_eq.mpr c8
    have c8b1 : (t156 != 0) = false := bne_eq_false_iff_eq.mpr c8
    clear c8
    by_cases c9 : t155 = a4
    · rw [if_pos c9] at H
      have c9b0 : (t155 == a4) = true := beq_iff_eq.mpr c9
      have c9b1 : (t155 != a4) = false := bne_eq_false_iff_eq.mpr c9
      clear c9
      replace H := Option.bind_eq_some_iff.mp H
      obtain ⟨t159, A100, H⟩ := H
      replace H : (some t159) = some r := H
      have A10 := Aside0.mk A100
      clear A100
      obtain rfl := Option.some.inj H
      go_enter Try.func28, Try.ntmps28
      go_wp2_with (first | ((with_reducible refine gate_callee (f := 23) rfl ?_); refine goesL_ (some 21) rfl rfl Try.func23 (by kernel_rfl) rfl #[.slice A0 l0.length c0, .int .i64 a1, .slice A2 l2.length c2, .slice A3 l3.length c3] rfl (by (try simp only [List.map_toArray, List.map_cons, List.map_nil]); first | done | rfl | (simp only [List.length_drop, List.length_take]; rfl)) ?_; (with_reducible refine (rules_Apply.calls _ _ l0 a1 _ _ l2 _ _ l3 t154 t155 t156 _ ?side1 ?side2 ?side3 ?side4 ?side5 ?side6 A7.out).mono ?_); (case side1 => repeat (first | exact HR0.out | (with_reducible refine Kd.C_alloc ?_ _) | (with_reducible refine Kd.C_drewN ?_ _) | (with_reducible refine Kd.C_drew ?_))); (case side2 => exact HC0.out); (case side3 => repeat (first | exact HR2.out | (with_reducible refine Kd.C_alloc ?_ _) | (with_reducible refine Kd.C_drewN ?_ _) | (with_reducible refine Kd.C_drew ?_))); (case side4 => exact HC2.out); (case side5 => repeat (first | exact HR3.out | (with_reducible refine Kd.C_alloc ?_ _) | (with_reducible refine Kd.C_drewN ?_ _) | (with_reducible refine Kd.C_drew ?_))); (case side6 => exact HC3.out); rintro e w11 ⟨v157, rfl, ho0, hb⟩; refine ⟨_, rfl, ?_⟩; have n0_ := Aside0.mk (Kd.R_lower ho0 (below_size (by repeat (first | (with_reducible first | exact HB.out | apply below_alloc | apply pw_below_drewN | apply below_drew1) | exact HB.out)))); have n1_ := Aside0.mk (below_step (by repeat (first | (with_reducible first | exact HB.out | apply below_alloc | apply pw_below_drewN | apply below_drew1) | exact HB.out)) hb); clear HB; have HO158 := n0_; have HB := n1_; clear n0_ n1_; (try clear hb); (try clear hb2); (try clear hk); (try clear hi); (try clear ho0); obtain ⟨Ao12, co12, eo12⟩ := Kd.R_slice HO158.out; subst eo12) | (go_at_call 26; (with_reducible refine (abugidaref16_Same.calls k _ _ t154 _ _ l5 t159 _ ?side1 ?side2 ?side3 ?side4 A10.out).mono ?_); (case side1 => repeat (first | exact (Kd.R_reads' HO158.out).2.2 | (with_reducible refine Kd.C_alloc ?_ _) | (with_reducible refine Kd.C_drewN ?_ _) | (with_reducible refine Kd.C_drew ?_))); (case side2 => exact (Kd.R_reads' HO158.out).2.1); (case side3 => repeat (first | exact (Kd.C_below HR5.out HB.out) | (with_reducible refine Kd.C_alloc ?_ _) | (with_reducible refine Kd.C_drewN ?_ _) | (with_reducible refine Kd.C_drew ?_))); (case side4 => exact HC5.out); rintro e w' ⟨rfl, ⟨nd, rfl⟩⟩))
      go_ret
      exact ⟨by first | rfl | (simp [errW_none, errW_some] <;> rfl) | (simp [*, errW_none, errW_some] <;> rfl), by repeat (first | (with_reducible first | exact HB.out | apply below_alloc | apply pw_below_drewN | apply below_drew1) | exact HB.out)⟩
    · rw [if_neg c9] at H
      have c9b0 : (t155 == a4) = false := beq_eq_false_iff_ne.mpr c9
      have c9b1 : (t155 != a4) = true := bne_iff_ne.mpr c9
      obtain rfl := Option.some.inj H
      go_enter Try.func28, Try.ntmps28
      go_wp2_with (first | ((with_reducible refine gate_callee (f := 23) rfl ?_); refine goesL_ (some 21) rfl rfl Try.func23 (by kernel_rfl) rfl #[.slice A0 l0.length c0, .int .i64 a1, .slice A2 l2.length c2, .slice A3 l3.length c3] rfl (by (try simp only [List.map_toArray, List.map_cons, List.map_nil]); first | done | rfl | (simp only [List.length_drop, List.length_take]; rfl)) ?_; (with_reducible refine (rules_Apply.calls _ _ l0 a1 _ _ l2 _ _ l3 t154 t155 t156 _ ?side1 ?side2 ?side3 ?side4 ?side5 ?side6 A7.out).mono ?_); (case side1 => repeat (first | exact HR0.out | (with_reducible refine Kd.C_alloc ?_ _) | (with_reducible refine Kd.C_drewN ?_ _) | (with_reducible refine Kd.C_drew ?_))); (case side2 => exact HC0.out); (case side3 => repeat (first | exact HR2.out | (with_reducible refine Kd.C_alloc ?_ _) | (with_reducible refine Kd.C_drewN ?_ _) | (with_reducible refine Kd.C_drew ?_))); (case side4 => exact HC2.out); (case side5 => repeat (first | exact HR3.out | (with_reducible refine Kd.C_alloc ?_ _) | (with_reducible refine Kd.C_drewN ?_ _) | (with_reducible refine Kd.C_drew ?_))); (case side6 => exact HC3.out); rintro e w13 ⟨v157, rfl, ho0, hb⟩; refine ⟨_, rfl, ?_⟩; have n0_ := Aside0.mk (Kd.R_lower ho0 (below_size (by repeat (first | (with_reducible first | exact HB.out | apply below_alloc | apply pw_below_drewN | apply below_drew1) | exact HB.out)))); have n1_ := Aside0.mk (below_step (by repeat (first | (with_reducible first | exact HB.out | apply below_alloc | apply pw_below_drewN | apply below_drew1) | exact HB.out)) hb); clear HB; have HO158 := n0_; have HB := n1_; clear n0_ n1_; (try clear hb); (try clear hb2); (try clear hk); (try clear hi); (try clear ho0)))
      go_ret
      exact ⟨by first | rfl | (simp [errW_none, errW_some] <;> rfl) | (simp [*, errW_none, errW_some] <;> rfl), by repeat (first | (with_reducible first | exact HB.out | apply below_alloc | apply pw_below_drewN | apply below_drew1) | exact HB.out)⟩
  · rw [if_neg c8] at H
    have c8b0 : (t156 == 0) = false := beq_eq_false_iff_ne.mpr c8
    have c8b1 : (t156 != 0) = true := bne_iff_ne.mpr c8
    obtain rfl := Option.some.inj H
    go_enter Try.func28, Try.ntmps28
    go_wp2_with (first | ((with_reducible refine gate_callee (f := 23) rfl ?_); refine goesL_ (some 21) rfl rfl Try.func23 (by kernel_rfl) rfl #[.slice A0 l0.length c0, .int .i64 a1, .slice A2 l2.length c2, .slice A3 l3.length c3] rfl (by (try simp only [List.map_toArray, List.map_cons, List.map_nil]); first | done | rfl | (simp only [List.length_drop, List.length_take]; rfl)) ?_; (with_reducible refine (rules_Apply.calls _ _ l0 a1 _ _ l2 _ _ l3 t154 t155 t156 _ ?side1 ?side2 ?side3 ?side4 ?side5 ?side6 A7.out).mono ?_); (case side1 => repeat (first | exact HR0.out | (with_reducible refine Kd.C_alloc ?_ _) | (with_reducible refine Kd.C_drewN ?_ _) | (with_reducible refine Kd.C_drew ?_))); (case side2 => exact HC0.out); (case side3 => repeat (first | exact HR2.out | (with_reducible refine Kd.C_alloc ?_ _) | (with_reducible refine Kd.C_drewN ?_ _) | (with_reducible refine Kd.C_drew ?_))); (case side4 => exact HC2.out); (case side5 => repeat (first | exact HR3.out | (with_reducible refine Kd.C_alloc ?_ _) | (with_reducible refine Kd.C_drewN ?_ _) | (with_reducible refine Kd.C_drew ?_))); (case side6 => exact HC3.out); rintro e w14 ⟨v157, rfl, ho0, hb⟩; refine ⟨_, rfl, ?_⟩; have n0_ := Aside0.mk (Kd.R_lower ho0 (below_size (by repeat (first | (with_reducible first | exact HB.out | apply below_alloc | apply pw_below_drewN | apply below_drew1) | exact HB.out)))); have n1_ := Aside0.mk (below_step (by repeat (first | (with_reducible first | exact HB.out | apply below_alloc | apply pw_below_drewN | apply below_drew1) | exact HB.out)) hb); clear HB; have HO158 := n0_; have HB := n1_; clear n0_ n1_; (try clear hb); (try clear hb2); (try clear hk); (try clear hi); (try clear ho0)))
    go_ret
    exact ⟨by first | rfl | (simp [errW_none, errW_some] <;> rfl) | (simp [*, errW_none, errW_some] <;> rfl), by repeat (first | (with_reducible first | exact HB.out | apply below_alloc | apply pw_below_drewN | apply below_drew1) | exact HB.out)⟩

/-! ### abugidalaw16_glyphs: function 30 -/
def abugidalaw16_glyphs.l0 : Nat → List (S55) → List Int → Int → Int → Option ((List (S55)))
  | 0, _, _, _, _ => none
  | k + 1, x3, x6, x7, x8 => if x8 < x7 then (if 0 ≤ x8 then (if x8 < (x6.length : Int) then (if x3.length < 8796093022208 then (abugidalaw16_glyphs.l0 k (x3 ++ [(⟨rd x6 x8, 0⟩ : S55)]) x6 x7 (wrap64 (x8 + 1))) else (none)) else (none)) else (none)) else (some x3)
def abugidalaw16_glyphs.f (k : Nat) (l0 : List Int) : Option ((List (S55))) := abugidalaw16_glyphs.l0 k ([] : List (S55)) l0 (l0.length : Int) 0
theorem abugidalaw16_glyphs.mono_l : ∀ k, (∀ y0 y1 y2 y3, LeO (abugidalaw16_glyphs.l0 k y0 y1 y2 y3) (abugidalaw16_glyphs.l0 (k + 1) y0 y1 y2 y3))
  | 0 => fun _ _ _ _ r h => by simp [abugidalaw16_glyphs.l0] at h
  | k + 1 => by
    have ih0 := abugidalaw16_glyphs.mono_l k
    · intro y0 y1 y2 y3
      unfold abugidalaw16_glyphs.l0
      repeat' first
      | (with_reducible exact ih0 _ _ _ _)
      | (with_reducible exact LeO.refl _)
      | (with_reducible exact LeO.none _)
      | (with_reducible refine LeO.ite ?_ ?_)
      | (with_reducible refine LeO.bind ?_ (fun _ => ?_))
      | exact ih0 _ _ _ _
      | exact LeO.none _
      | refine LeO.ite ?_ ?_
      | refine LeO.bind ?_ (fun _ => ?_)
theorem abugidalaw16_glyphs.mono : ∀ a0 k, LeO (abugidalaw16_glyphs.f k a0) (abugidalaw16_glyphs.f (k + 1) a0) := by
  intro a0 k
  have ih0 := abugidalaw16_glyphs.mono_l k
  unfold abugidalaw16_glyphs.f
  repeat' first
      | (with_reducible exact ih0 _ _ _ _)
      | (with_reducible exact LeO.refl _)
      | (with_reducible exact LeO.none _)
      | (with_reducible refine LeO.ite ?_ ?_)
      | (with_reducible refine LeO.bind ?_ (fun _ => ?_))
      | exact ih0 _ _ _ _
      | exact LeO.none _
      | refine LeO.ite ?_ ?_
      | refine LeO.bind ?_ (fun _ => ?_)
set_option maxHeartbeats 8000000 in
set_option maxRecDepth 100000 in
theorem abugidalaw16_glyphs.calls (k : Nat) (A0 : Option Addr) (c0 : Nat) (l0 : List Int) (r : List (S55)) (w : World) (hr0 : Kd.C (Kd.int .i64) w A0 l0.length l0) (hc0 : l0.length ≤ c0) (h : abugidalaw16_glyphs.f k l0 = some r) :
    Calls Try.prog 30 #[.slice A0 l0.length c0] w fun e w' => ∃ v0_ : Value, e = .returned (v0_) ∧ Kd.R k55 55 w' w.heap.size (fun _ => True) v0_ r ∧ Below w.heap.size w w' := by
  have hu55 := Try.underlying55
  have HR0 := Aside0.mk hr0
  have HC0 := Aside0.mk hc0
  clear hr0 hc0
  have HB := Aside0.mk (Below.refl w.heap.size w)
  have H : (abugidalaw16_glyphs.l0 k ([] : List (S55)) l0 (l0.length : Int) 0) = some r := h
  clear h
  have H' := Aside0.mk H
  clear H
  go_enter Try.func30, Try.ntmps30
  go_wp2
  go_loopg [3, 8] k (fun kq v3 v8 w' => ∃ (x3_1 : List (S55)) (x8_1 : Int), v8 = .int .i64 x8_1 ∧ Aside0 (abugidalaw16_glyphs.l0 kq x3_1 l0 (l0.length : Int) x8_1 = some r) ∧ Aside0 (kq ≤ k) ∧ Aside0 (Kd.R k55 55 w' w.heap.size (fun _ => True) v3 x3_1) ∧ Aside0 (Below w.heap.size w w'))
  case atStart => exact ⟨(([] : List (S55))), (0), (by first | rfl | (simp; done) | (simp [*]; done)), H', ⟨Nat.le_refl _⟩, ⟨by first | exact Kd.R_nil _ _ _ _ _ | exact Kd.N_nil _ _ _ _ _ | exact Kd.V_nil _ _ _ _ _ | exact Kd.Q_nil _ _ _ _ _ | exact Kd.S_nil _ _ _ _ _⟩, ⟨by repeat (first | (with_reducible first | exact HB.out | apply below_alloc | apply pw_below_drewN | apply below_drew1) | exact HB.out)⟩⟩
  case round =>
    clear H'
    obtain ⟨x3_1, x8_1, rfl, HA, HK1, HO_3, HB⟩ := hrel
    cases gk with
    | zero => exact absurd HA.out (by simp [abugidalaw16_glyphs.l0])
    | succ k1 =>
      have H := HA.out
      clear HA
      simp only [abugidalaw16_glyphs.l0] at H
      by_cases c2 : x8_1 < (l0.length : Int)
      · rw [if_pos c2] at H
        have c2b0 : decide (x8_1 < (l0.length : Int)) = true := decide_eq_true c2
        clear c2
        by_cases c3 : 0 ≤ x8_1
        · rw [if_pos c3] at H
          have c3b0 : decide (0 ≤ x8_1) = true := decide_eq_true c3
          clear c3
          by_cases c4 : x8_1 < (l0.length : Int)
          · rw [if_pos c4] at H
            have c4b0 : decide (x8_1 < (l0.length : Int)) = true := decide_eq_true c4
            clear c4
            by_cases c5 : x3_1.length < 8796093022208
            · rw [if_pos c5] at H
              have LMc5 := Aside0.mk c5
              clear c5
              obtain ⟨y161, hy161⟩ : ∃ y_ : List (S55), y_ = (x3_1 ++ [(⟨rd l0 x8_1, 0⟩ : S55)]) := ⟨_, rfl⟩
              replace H : (abugidalaw16_glyphs.l0 k1 y161 l0 (l0.length : Int) (wrap64 (x8_1 + 1))) = some r := by first | (rw [hy161]; with_reducible exact H) | (have H2_ := (Option.bind_some _ _).symm.trans H; rw [hy161]; with_reducible exact H2_) | (have H2_ := (Option.bind_some _ _).symm.trans H; with_reducible exact H2_) | with_reducible exact H | (rw [hy161]; exact H) | exact H
              have Ny161 := Aside0.mk hy161
              clear hy161
              have H' := Aside0.mk H
              clear H
              have p160 : 0 ≤ (x8_1 : Int) := of_decide_eq_true (by first | (with_reducible assumption) | assumption)
              have q160 : x8_1 < (l0.length : Int) := of_decide_eq_true (by first | (with_reducible assumption) | assumption)
              obtain ⟨ad160, e160, hx160_0⟩ := Kd.at_int HR0.out x8_1 p160 q160
              cases e160
              replace hx160_0 := (HB.out.cell (World.block_lt_of_cell? w _ hx160_0)).trans hx160_0
              replace p160 := eq_true p160
              replace q160 := eq_true q160
              go_wp2_with (first | ((with_reducible refine gate_builtin (b := .append) (xs := #[.tmp 12, .tmp 15]) rfl ?_); at_builtin; refine Kd.R_append k55 (w0 := w) w.heap.size rfl (.tmp 12) (.tmp 15) 33 55 (.agg #[(.int .i64 0), (.int .i64 0)]) 16 rfl Try.underlying33 info55 rfl (by decide) (by omega) u3 x3_1 (⟨rd l0 x8_1, 0⟩ : S55) [.int .i64 (rd l0 x8_1), .int .i64 0] (fun _ => True) (fun _ => False) rfl rfl ?aP (fun _ hk => hk.elim) ?aF ?aO ?aB ?aS ?aL ?_; (case aP => exact k55_mkM _ _ _ (⟨rd l0 x8_1, 0⟩ : S55)); (case aB => exact (by repeat (first | (with_reducible first | exact HB.out | apply below_alloc | apply pw_below_drewN | apply below_drew1) | exact HB.out))); (case aF => exact (fun _ _ => trivial)); (case aO => exact (by (with_reducible repeat (first | apply Kd.R_alloc | apply Kd.R_drewN | apply Kd.R_drew)); exact HO_3.out)); (case aS => exact (below_size (by repeat (first | (with_reducible first | exact HB.out | apply below_alloc | apply pw_below_drewN | apply below_drew1) | exact HB.out)))); (case aL => have := LMc5.out; omega); intro v162 w6 ho hb hg hat; rw [← Ny161.out] at ho; have n0_ := Aside0.mk (hb); have n1_ := Aside0.mk (ho); clear HB; clear HO_3; have HB := n0_; have HO163 := n1_; clear n0_ n1_; clear ho hb hg hat))
              go_roundg k1
              case measure => have := HK1.out; omega
              case rel => exact ⟨(y161), (wrap64 (x8_1 + 1)), (by first | rfl | (simp; done) | (simp [*]; done)), H', ⟨by have := HK1.out; omega⟩, ⟨by (with_reducible repeat (first | apply Kd.R_alloc | apply Kd.R_drewN | apply Kd.R_drew)); exact HO163.out⟩, ⟨by repeat (first | (with_reducible first | exact HB.out | apply below_alloc | apply pw_below_drewN | apply below_drew1) | exact HB.out)⟩⟩
            · rw [if_neg c5] at H
              exact absurd H (by simp)
          · rw [if_neg c4] at H
            exact absurd H (by simp)
        · rw [if_neg c3] at H
          exact absurd H (by simp)
      · rw [if_neg c2] at H
        have c2b0 : decide (x8_1 < (l0.length : Int)) = false := decide_eq_false c2
        clear c2
        obtain rfl := Option.some.inj H
        go_wp2
        go_ret
        exact ⟨_, by first | rfl | (simp [errW_none, errW_some] <;> rfl) | (simp [*, errW_none, errW_some] <;> rfl), by (with_reducible repeat (first | apply Kd.R_alloc | apply Kd.R_drewN | apply Kd.R_drew)); exact HO_3.out, by repeat (first | (with_reducible first | exact HB.out | apply below_alloc | apply pw_below_drewN | apply below_drew1) | exact HB.out)⟩

end Go.Proofs.Ytlgkeaildncojaa.Q
end
section
-- Written by wip/tools/myprint.py, a program of this session that drives the kit's print.py; not a text of print.sh.
namespace Go.Proofs.Ytlgkeaildncojaa.Q
open Go.RowKit Go.Proofs.YtlgkeaildncojaaW.PrintWords Go.Proofs.YtlgkeaildncojaaW.PrintLast Go.Proofs.YtlgkeaildncojaaW.PrintMore
attribute [local go_sem] max2_int min2_int max_two min_two max_three min_three max_four min_four   -- for this text's walks alone
set_option linter.unusedVariables false
set_option linter.unusedSimpArgs false

/-! ### abugidaref16_MadeAll: function 31 (by hand) -/

def abugidaref16_MadeAll.f (l0 : List (List Int)) (a1 : Int) (a2 : Int) : Option (List (S24)) := if a1 = 3 ∧ a2 = 9 ∧ l0.all (fun s => decide (s.length ≤ 9223372036854775807)) = true then some (madeAll l0) else none
theorem abugidaref16_MadeAll.calls (A0 : Option Addr) (c0 : Nat) (l0 : List (List Int)) (a1 : Int) (a2 : Int) (r : List (S24)) (w : World) (hr0 : Kd.C (Kd.slice 3 (Kd.int .i64)) w A0 l0.length l0) (hc0 : l0.length ≤ c0) (h : abugidaref16_MadeAll.f l0 a1 a2 = some r) :
    Calls Try.prog 31 #[.slice A0 l0.length c0, .int .i64 a1, .int .i64 a2] w fun e w' => ∃ v0_ : Value, e = .returned (v0_) ∧ Kd.R k24 24 w' w.heap.size (fun _ => True) v0_ r ∧ Below w.heap.size w w' := by
  unfold abugidaref16_MadeAll.f at h
  split at h
  · rename_i hg
    obtain ⟨rfl, rfl, hl⟩ := hg
    obtain rfl := Option.some.inj h
    refine madeall_calls A0 c0 l0 w hr0 hc0 (fun s hs => ?_)
    exact of_decide_eq_true (List.all_eq_true.mp hl s hs)
  · cases h


end Go.Proofs.Ytlgkeaildncojaa.Q
end
section
-- Written by wip/tools/myprint.py, a program of this session that drives the kit's print.py; not a text of print.sh.
namespace Go.Proofs.Ytlgkeaildncojaa.Q
open Go.RowKit Go.Proofs.YtlgkeaildncojaaW.PrintWords Go.Proofs.YtlgkeaildncojaaW.PrintLast Go.Proofs.YtlgkeaildncojaaW.PrintMore
attribute [local go_sem] max2_int min2_int max_two min_two max_three min_three max_four min_four   -- for this text's walks alone
set_option linter.unusedVariables false
set_option linter.unusedSimpArgs false

/-! ### abugidaref16_MadeItems: function 32 -/
mutual
def abugidaref16_MadeItems.l0 : Nat → List Int → List (S55) → Int → Int → Int → Option ((List (S55)))
  | 0, _, _, _, _, _ => none
  | k + 1, x0, x3, x4, x5, x6 => if x6 < (x0.length : Int) then (abugidaref16_MadeItems.j1 k x0 x3 x4 x5 x6 (decide (x6 < 24))) else (abugidaref16_MadeItems.j1 k x0 x3 x4 x5 x6 false)
def abugidaref16_MadeItems.j1 : Nat → List Int → List (S55) → Int → Int → Int → Bool → Option ((List (S55)))
  | 0, _, _, _, _, _, _ => none
  | k + 1, x0, x3, x4, x5, x6, x14 => if x14 = true then (if x5 > 0 then (if x5 = 6 then (if 0 ≤ x6 then (if x6 < (x0.length : Int) then ((abugidaref01_Mod.f (rd x0 x6) 9).bind fun t284 => (if x3.length < 8796093022208 then (abugidaref16_MadeItems.l0 k x0 (x3 ++ [(⟨t284, wrap64 (x4 + 1)⟩ : S55)]) (wrap64 (x4 + 1)) (0 + 1) (wrap64 (x6 + 1))) else (none))) else (none)) else (none)) else (if 0 ≤ x6 then (if x6 < (x0.length : Int) then ((abugidaref01_Mod.f (wrap64 (Int.tdiv (rd x0 x6) 9)) 4).bind fun t289 => (if t289 = 0 then ((abugidaref01_Mod.f (rd x0 x6) 9).bind fun t291 => (if x3.length < 8796093022208 then (abugidaref16_MadeItems.l0 k x0 (x3 ++ [(⟨t291, wrap64 (x4 + 1)⟩ : S55)]) (wrap64 (x4 + 1)) (0 + 1) (wrap64 (x6 + 1))) else (none))) else ((abugidaref01_Mod.f (rd x0 x6) 9).bind fun t296 => (if x3.length < 8796093022208 then (abugidaref16_MadeItems.l0 k x0 (x3 ++ [(⟨t296, x4⟩ : S55)]) x4 (wrap64 (x5 + 1)) (wrap64 (x6 + 1))) else (none))))) else (none)) else (none))) else (if 0 ≤ x6 then (if x6 < (x0.length : Int) then ((abugidaref01_Mod.f (rd x0 x6) 9).bind fun t301 => (if x3.length < 8796093022208 then (abugidaref16_MadeItems.l0 k x0 (x3 ++ [(⟨t301, x4⟩ : S55)]) x4 (wrap64 (x5 + 1)) (wrap64 (x6 + 1))) else (none))) else (none)) else (none))) else (some x3)
end
def abugidaref16_MadeItems.f (k : Nat) (l0 : List Int) : Option ((List (S55))) := abugidaref16_MadeItems.l0 k l0 ([] : List (S55)) 0 0 0
theorem abugidaref16_MadeItems.mono_l : ∀ k, (∀ y0 y1 y2 y3 y4, LeO (abugidaref16_MadeItems.l0 k y0 y1 y2 y3 y4) (abugidaref16_MadeItems.l0 (k + 1) y0 y1 y2 y3 y4)) ∧ (∀ y0 y1 y2 y3 y4 y5, LeO (abugidaref16_MadeItems.j1 k y0 y1 y2 y3 y4 y5) (abugidaref16_MadeItems.j1 (k + 1) y0 y1 y2 y3 y4 y5))
  | 0 => ⟨fun _ _ _ _ _ r h => by simp [abugidaref16_MadeItems.l0] at h, fun _ _ _ _ _ _ r h => by simp [abugidaref16_MadeItems.j1] at h⟩
  | k + 1 => by
    obtain ⟨ih0, ih1⟩ := abugidaref16_MadeItems.mono_l k
    refine ⟨?_, ?_⟩
    · intro y0 y1 y2 y3 y4
      unfold abugidaref16_MadeItems.l0
      repeat' first
      | (with_reducible exact ih0 _ _ _ _ _)
      | (with_reducible exact ih1 _ _ _ _ _ _)
      | (with_reducible exact LeO.refl _)
      | (with_reducible exact LeO.none _)
      | (with_reducible refine LeO.ite ?_ ?_)
      | (with_reducible refine LeO.bind ?_ (fun _ => ?_))
      | exact ih0 _ _ _ _ _
      | exact ih1 _ _ _ _ _ _
      | exact LeO.none _
      | refine LeO.ite ?_ ?_
      | refine LeO.bind ?_ (fun _ => ?_)
    · intro y0 y1 y2 y3 y4 y5
      unfold abugidaref16_MadeItems.j1
      repeat' first
      | (with_reducible exact ih0 _ _ _ _ _)
      | (with_reducible exact ih1 _ _ _ _ _ _)
      | (with_reducible exact LeO.refl _)
      | (with_reducible exact LeO.none _)
      | (with_reducible refine LeO.ite ?_ ?_)
      | (with_reducible refine LeO.bind ?_ (fun _ => ?_))
      | exact ih0 _ _ _ _ _
      | exact ih1 _ _ _ _ _ _
      | exact LeO.none _
      | refine LeO.ite ?_ ?_
      | refine LeO.bind ?_ (fun _ => ?_)
theorem abugidaref16_MadeItems.mono : ∀ a0 k, LeO (abugidaref16_MadeItems.f k a0) (abugidaref16_MadeItems.f (k + 1) a0) := by
  intro a0 k
  obtain ⟨ih0, ih1⟩ := abugidaref16_MadeItems.mono_l k
  unfold abugidaref16_MadeItems.f
  repeat' first
      | (with_reducible exact ih0 _ _ _ _ _)
      | (with_reducible exact ih1 _ _ _ _ _ _)
      | (with_reducible exact LeO.refl _)
      | (with_reducible exact LeO.none _)
      | (with_reducible refine LeO.ite ?_ ?_)
      | (with_reducible refine LeO.bind ?_ (fun _ => ?_))
      | exact ih0 _ _ _ _ _
      | exact ih1 _ _ _ _ _ _
      | exact LeO.none _
      | refine LeO.ite ?_ ?_
      | refine LeO.bind ?_ (fun _ => ?_)
set_option maxHeartbeats 8000000 in
set_option maxRecDepth 100000 in
theorem abugidaref16_MadeItems.calls (k : Nat) (A0 : Option Addr) (c0 : Nat) (l0 : List Int) (r : List (S55)) (w : World) (hr0 : Kd.C (Kd.int .i64) w A0 l0.length l0) (hc0 : l0.length ≤ c0) (h : abugidaref16_MadeItems.f k l0 = some r) :
    Calls Try.prog 32 #[.slice A0 l0.length c0] w fun e w' => ∃ v0_ : Value, e = .returned (v0_) ∧ Kd.R k55 55 w' w.heap.size (fun _ => True) v0_ r ∧ Below w.heap.size w w' := by
  have hu55 := Try.underlying55
  have HR0 := Aside0.mk hr0
  have HC0 := Aside0.mk hc0
  clear hr0 hc0
  have HB := Aside0.mk (Below.refl w.heap.size w)
  have H : (abugidaref16_MadeItems.l0 k l0 ([] : List (S55)) 0 0 0) = some r := h
  clear h
  have H' := Aside0.mk H
  clear H
  go_enter Try.func32, Try.ntmps32
  go_wp2
  go_loopg [3, 4, 5, 6] k (fun kq v3 v4 v5 v6 w' => ∃ (x3_1 : List (S55)) (x4_1 : Int) (x5_1 : Int) (x6_1 : Int), v4 = .int .i64 x4_1 ∧ v5 = .int .i64 x5_1 ∧ v6 = .int .i64 x6_1 ∧ Aside0 (abugidaref16_MadeItems.l0 kq l0 x3_1 x4_1 x5_1 x6_1 = some r) ∧ Aside0 (kq ≤ k) ∧ Aside0 (Kd.R k55 55 w' w.heap.size (fun _ => True) v3 x3_1) ∧ Aside0 (Below w.heap.size w w'))
  case atStart => exact ⟨(([] : List (S55))), (0), (0), (0), (by first | rfl | (simp; done) | (simp [*]; done)), (by first | rfl | (simp; done) | (simp [*]; done)), (by first | rfl | (simp; done) | (simp [*]; done)), H', ⟨Nat.le_refl _⟩, ⟨by first | exact Kd.R_nil _ _ _ _ _ | exact Kd.N_nil _ _ _ _ _ | exact Kd.V_nil _ _ _ _ _ | exact Kd.Q_nil _ _ _ _ _ | exact Kd.S_nil _ _ _ _ _⟩, ⟨by repeat (first | (with_reducible first | exact HB.out | apply below_alloc | apply pw_below_drewN | apply below_drew1) | exact HB.out)⟩⟩
  case round =>
    clear H'
    obtain ⟨x3_1, x4_1, x5_1, x6_1, rfl, rfl, rfl, HA, HK1, HO_3, HB⟩ := hrel
    cases gk with
    | zero => exact absurd HA.out (by simp [abugidaref16_MadeItems.l0])
    | succ k1 =>
      have H := HA.out
      clear HA
      simp only [abugidaref16_MadeItems.l0] at H
      have HC2 := Aside0.mk H
      clear H
      go_upto_region 5 with (fail)
      go_cut [14] (fun v14 wc => ∃ (kq : Nat) (x14_1 : Bool), v14 = .bool x14_1 ∧ Aside0 (abugidaref16_MadeItems.j1 kq l0 x3_1 x4_1 x5_1 x6_1 x14_1 = some r) ∧ Aside0 (kq ≤ k1) ∧ Aside0 (Kd.R k55 55 wc w.heap.size (fun _ => True) u3 x3_1) ∧ Aside0 (Below w.heap.size w wc))
      case first =>
        have H := HC2.out
        clear HC2
        by_cases c3 : x6_1 < (l0.length : Int)
        · rw [if_pos c3] at H
          have c3b0 : decide (x6_1 < (l0.length : Int)) = true := decide_eq_true c3
          clear c3
          (first | rw [c3b0] | (simp only [i64_w, i32_w]; rw [c3b0]) | skip)
          have H' := Aside0.mk H
          clear H
          go_wp2
          go_meet
          case rel => exact ⟨_, (decide (x6_1 < 24)), (by first | rfl | (simp; done) | (simp [*]; done)), H', ⟨by have := HK1.out; first | omega | exact Nat.le_refl _⟩, ⟨by (with_reducible repeat (first | apply Kd.R_alloc | apply Kd.R_drewN | apply Kd.R_drew)); exact HO_3.out⟩, ⟨by repeat (first | (with_reducible first | exact HB.out | apply below_alloc | apply pw_below_drewN | apply below_drew1) | exact HB.out)⟩⟩
        · rw [if_neg c3] at H
          have c3b0 : decide (x6_1 < (l0.length : Int)) = false := decide_eq_false c3
          clear c3
          (first | rw [c3b0] | (simp only [i64_w, i32_w]; rw [c3b0]) | skip)
          have H' := Aside0.mk H
          clear H
          go_wp2
          go_meet
          case rel => exact ⟨_, (false), (by first | rfl | (simp; done) | (simp [*]; done)), H', ⟨by have := HK1.out; first | omega | exact Nat.le_refl _⟩, ⟨by (with_reducible repeat (first | apply Kd.R_alloc | apply Kd.R_drewN | apply Kd.R_drew)); exact HO_3.out⟩, ⟨by repeat (first | (with_reducible first | exact HB.out | apply below_alloc | apply pw_below_drewN | apply below_drew1) | exact HB.out)⟩⟩
      case rest =>
        clear HC2
        try clear p2
        try clear c3
        try clear c3b0
        obtain ⟨kq, x14_1, rfl, HA, HJ1, HO_3, HB⟩ := hcut
        cases kq with
        | zero => exact absurd HA.out (by simp [abugidaref16_MadeItems.j1])
        | succ kj1 =>
          have H := HA.out
          clear HA
          simp only [abugidaref16_MadeItems.j1] at H
          by_cases c4 : x14_1 = true
          · subst c4
            have H1 : (if x5_1 > 0 then (if x5_1 = 6 then (if 0 ≤ x6_1 then (if x6_1 < (l0.length : Int) then ((abugidaref01_Mod.f (rd l0 x6_1) 9).bind fun t284 => (if x3_1.length < 8796093022208 then (abugidaref16_MadeItems.l0 kj1 l0 (x3_1 ++ [(⟨t284, wrap64 (x4_1 + 1)⟩ : S55)]) (wrap64 (x4_1 + 1)) (0 + 1) (wrap64 (x6_1 + 1))) else (none))) else (none)) else (none)) else (if 0 ≤ x6_1 then (if x6_1 < (l0.length : Int) then ((abugidaref01_Mod.f (wrap64 (Int.tdiv (rd l0 x6_1) 9)) 4).bind fun t289 => (if t289 = 0 then ((abugidaref01_Mod.f (rd l0 x6_1) 9).bind fun t291 => (if x3_1.length < 8796093022208 then (abugidaref16_MadeItems.l0 kj1 l0 (x3_1 ++ [(⟨t291, wrap64 (x4_1 + 1)⟩ : S55)]) (wrap64 (x4_1 + 1)) (0 + 1) (wrap64 (x6_1 + 1))) else (none))) else ((abugidaref01_Mod.f (rd l0 x6_1) 9).bind fun t296 => (if x3_1.length < 8796093022208 then (abugidaref16_MadeItems.l0 kj1 l0 (x3_1 ++ [(⟨t296, x4_1⟩ : S55)]) x4_1 (wrap64 (x5_1 + 1)) (wrap64 (x6_1 + 1))) else (none))))) else (none)) else (none))) else (if 0 ≤ x6_1 then (if x6_1 < (l0.length : Int) then ((abugidaref01_Mod.f (rd l0 x6_1) 9).bind fun t301 => (if x3_1.length < 8796093022208 then (abugidaref16_MadeItems.l0 kj1 l0 (x3_1 ++ [(⟨t301, x4_1⟩ : S55)]) x4_1 (wrap64 (x5_1 + 1)) (wrap64 (x6_1 + 1))) else (none))) else (none)) else (none))) = some r := by rw [if_pos rfl] at H; exact H
            clear H
            have H := H1
            clear H1
            by_cases c5 : x5_1 > 0
            · rw [if_pos c5] at H
              have c5b0 : decide (0 < x5_1) = true := decide_eq_true c5
              clear c5
              by_cases c6 : x5_1 = 6
              · rw [if_pos c6] at H
                have c6b0 : (x5_1 == 6) = true := beq_iff_eq.mpr c6
                have c6b1 : (x5_1 != 6) = false := bne_eq_false_iff_eq.mpr c6
                clear c6
                by_cases c7 : 0 ≤ x6_1
                · rw [if_pos c7] at H
                  have c7b0 : decide (0 ≤ x6_1) = true := decide_eq_true c7
                  clear c7
                  by_cases c8 : x6_1 < (l0.length : Int)
                  · rw [if_pos c8] at H
                    have c8b0 : decide (x6_1 < (l0.length : Int)) = true := decide_eq_true c8
                    clear c8
                    replace H := Option.bind_eq_some_iff.mp H
                    obtain ⟨t284, A90, H⟩ := H
                    replace H : (if x3_1.length < 8796093022208 then (abugidaref16_MadeItems.l0 kj1 l0 (x3_1 ++ [(⟨t284, wrap64 (x4_1 + 1)⟩ : S55)]) (wrap64 (x4_1 + 1)) (0 + 1) (wrap64 (x6_1 + 1))) else (none)) = some r := H
                    have A9 := Aside0.mk A90
                    clear A90
                    by_cases c10 : x3_1.length < 8796093022208
                    · rw [if_pos c10] at H
                      have LMc10 := Aside0.mk c10
                      clear c10
                      obtain ⟨y285, hy285⟩ : ∃ y_ : List (S55), y_ = (x3_1 ++ [(⟨t284, wrap64 (x4_1 + 1)⟩ : S55)]) := ⟨_, rfl⟩
                      replace H : (abugidaref16_MadeItems.l0 kj1 l0 y285 (wrap64 (x4_1 + 1)) (0 + 1) (wrap64 (x6_1 + 1))) = some r := by first | (rw [hy285]; with_reducible exact H) | (have H2_ := (Option.bind_some _ _).symm.trans H; rw [hy285]; with_reducible exact H2_) | (have H2_ := (Option.bind_some _ _).symm.trans H; with_reducible exact H2_) | with_reducible exact H | (rw [hy285]; exact H) | exact H
                      have Ny285 := Aside0.mk hy285
                      clear hy285
                      have H' := Aside0.mk H
                      clear H
                      have p283 : 0 ≤ (x6_1 : Int) := of_decide_eq_true (by first | (with_reducible assumption) | assumption)
                      have q283 : x6_1 < (l0.length : Int) := of_decide_eq_true (by first | (with_reducible assumption) | assumption)
                      obtain ⟨ad283, e283, hx283_0⟩ := Kd.at_int HR0.out x6_1 p283 q283
                      cases e283
                      replace hx283_0 := (HB.out.cell (World.block_lt_of_cell? w _ hx283_0)).trans hx283_0
                      replace p283 := eq_true p283
                      replace q283 := eq_true q283
                      go_wp2_with (first | ((with_reducible refine gate_callee (f := 15) rfl ?_); refine goesL_ (some 41) rfl rfl Try.func15 (by kernel_rfl) rfl #[.int .i64 (rd l0 x6_1), .int .i64 9] rfl (by (try simp only [List.map_toArray, List.map_cons, List.map_nil]); first | done | rfl | (simp only [List.length_drop, List.length_take]; rfl)) ?_; (with_reducible refine (abugidaref01_Mod.calls (rd l0 x6_1) 9 t284 _ A9.out).mono ?_); rintro e w' ⟨rfl, ⟨nd, rfl⟩⟩; refine ⟨_, rfl, ?_⟩) | ((with_reducible refine gate_builtin (b := .append) (xs := #[.tmp 36, .tmp 44]) rfl ?_); at_builtin; refine Kd.R_append k55 (w0 := w) w.heap.size rfl (.tmp 36) (.tmp 44) 33 55 (.agg #[(.int .i64 0), (.int .i64 0)]) 16 rfl Try.underlying33 info55 rfl (by decide) (by omega) u3 x3_1 (⟨t284, wrap64 (x4_1 + 1)⟩ : S55) [.int .i64 t284, .int .i64 (wrap64 (x4_1 + 1))] (fun _ => True) (fun _ => False) rfl rfl ?aP (fun _ hk => hk.elim) ?aF ?aO ?aB ?aS ?aL ?_; (case aP => exact k55_mkM _ _ _ (⟨t284, wrap64 (x4_1 + 1)⟩ : S55)); (case aB => exact (by repeat (first | (with_reducible first | exact HB.out | apply below_alloc | apply pw_below_drewN | apply below_drew1) | exact HB.out))); (case aF => exact (fun _ _ => trivial)); (case aO => exact (by (with_reducible repeat (first | apply Kd.R_alloc | apply Kd.R_drewN | apply Kd.R_drew)); exact HO_3.out)); (case aS => exact (below_size (by repeat (first | (with_reducible first | exact HB.out | apply below_alloc | apply pw_below_drewN | apply below_drew1) | exact HB.out)))); (case aL => have := LMc10.out; omega); intro v286 w11 ho hb hg hat; rw [← Ny285.out] at ho; have n0_ := Aside0.mk (hb); have n1_ := Aside0.mk (ho); clear HB; clear HO_3; have HB := n0_; have HO287 := n1_; clear n0_ n1_; clear ho hb hg hat))
                      go_roundg kj1
                      case measure => have := HK1.out; have := HJ1.out; omega
                      case rel => exact ⟨(y285), (wrap64 (x4_1 + 1)), (0 + 1), (wrap64 (x6_1 + 1)), (by first | rfl | (simp; done) | (simp [*]; done)), (by first | rfl | (simp; done) | (simp [*]; done)), (by first | rfl | (simp; done) | (simp [*]; done)), H', ⟨by have := HK1.out; have := HJ1.out; omega⟩, ⟨by (with_reducible repeat (first | apply Kd.R_alloc | apply Kd.R_drewN | apply Kd.R_drew)); exact HO287.out⟩, ⟨by repeat (first | (with_reducible first | exact HB.out | apply below_alloc | apply pw_below_drewN | apply below_drew1) | exact HB.out)⟩⟩
                    · rw [if_neg c10] at H
                      exact absurd H (by simp)
                  · rw [if_neg c8] at H
                    exact absurd H (by simp)
                · rw [if_neg c7] at H
                  exact absurd H (by simp)
              · rw [if_neg c6] at H
                have c6b0 : (x5_1 == 6) = false := beq_eq_false_iff_ne.mpr c6
                have c6b1 : (x5_1 != 6) = true := bne_iff_ne.mpr c6
                by_cases c12 : 0 ≤ x6_1
                · rw [if_pos c12] at H
                  have c12b0 : decide (0 ≤ x6_1) = true := decide_eq_true c12
                  clear c12
                  by_cases c13 : x6_1 < (l0.length : Int)
                  · rw [if_pos c13] at H
                    have c13b0 : decide (x6_1 < (l0.length : Int)) = true := decide_eq_true c13
                    clear c13
                    replace H := Option.bind_eq_some_iff.mp H
                    obtain ⟨t289, A140, H⟩ := H
                    replace H : (if t289 = 0 then ((abugidaref01_Mod.f (rd l0 x6_1) 9).bind fun t291 => (if x3_1.length < 8796093022208 then (abugidaref16_MadeItems.l0 kj1 l0 (x3_1 ++ [(⟨t291, wrap64 (x4_1 + 1)⟩ : S55)]) (wrap64 (x4_1 + 1)) (0 + 1) (wrap64 (x6_1 + 1))) else (none))) else ((abugidaref01_Mod.f (rd l0 x6_1) 9).bind fun t296 => (if x3_1.length < 8796093022208 then (abugidaref16_MadeItems.l0 kj1 l0 (x3_1 ++ [(⟨t296, x4_1⟩ : S55)]) x4_1 (wrap64 (x5_1 + 1)) (wrap64 (x6_1 + 1))) else (none)))) = some r := H
                    have A14 := Aside0.mk A140
                    clear A140
                    by_cases c15 : t289 = 0
                    · rw [if_pos c15] at H
                      have c15b0 : (t289 == 0) = true := beq_iff_eq.mpr c15
                      have c15b1 : (t289 != 0) = false := bne_eq_false_iff_eq.mpr c15
                      clear c15
                      replace H := Option.bind_eq_some_iff.mp H
                      obtain ⟨t291, A160, H⟩ := H
                      replace H : (if x3_1.length < 8796093022208 then (abugidaref16_MadeItems.l0 kj1 l0 (x3_1 ++ [(⟨t291, wrap64 (x4_1 + 1)⟩ : S55)]) (wrap64 (x4_1 + 1)) (0 + 1) (wrap64 (x6_1 + 1))) else (none)) = some r := H
                      have A16 := Aside0.mk A160
                      clear A160
                      by_cases c17 : x3_1.length < 8796093022208
                      · rw [if_pos c17] at H
                        have LMc17 := Aside0.mk c17
                        clear c17
                        obtain ⟨y292, hy292⟩ : ∃ y_ : List (S55), y_ = (x3_1 ++ [(⟨t291, wrap64 (x4_1 + 1)⟩ : S55)]) := ⟨_, rfl⟩
                        replace H : (abugidaref16_MadeItems.l0 kj1 l0 y292 (wrap64 (x4_1 + 1)) (0 + 1) (wrap64 (x6_1 + 1))) = some r := by first | (rw [hy292]; with_reducible exact H) | (have H2_ := (Option.bind_some _ _).symm.trans H; rw [hy292]; with_reducible exact H2_) | (have H2_ := (Option.bind_some _ _).symm.trans H; with_reducible exact H2_) | with_reducible exact H | (rw [hy292]; exact H) | exact H
                        have Ny292 := Aside0.mk hy292
                        clear hy292
                        have H' := Aside0.mk H
                        clear H
                        have p288 : 0 ≤ (x6_1 : Int) := of_decide_eq_true (by first | (with_reducible assumption) | assumption)
                        have q288 : x6_1 < (l0.length : Int) := of_decide_eq_true (by first | (with_reducible assumption) | assumption)
                        obtain ⟨ad288, e288, hx288_0⟩ := Kd.at_int HR0.out x6_1 p288 q288
                        cases e288
                        replace hx288_0 := (HB.out.cell (World.block_lt_of_cell? w _ hx288_0)).trans hx288_0
                        replace p288 := eq_true p288
                        replace q288 := eq_true q288
                        go_wp2_with (first | (go_at_call 15; (with_reducible refine (abugidaref01_Mod.calls (wrap64 (Int.tdiv (rd l0 x6_1) 9)) 4 t289 _ A14.out).mono ?_); rintro e w' ⟨rfl, ⟨nd, rfl⟩⟩; have p290 : 0 ≤ (x6_1 : Int) := of_decide_eq_true (by first | (with_reducible assumption) | assumption); have q290 : x6_1 < (l0.length : Int) := of_decide_eq_true (by first | (with_reducible assumption) | assumption); obtain ⟨ad290, e290, hx290_0⟩ := Kd.at_int HR0.out x6_1 p290 q290; obtain rfl : ad288 = ad290 := (by injection e290); replace hx290_0 := (HB.out.cell (World.block_lt_of_cell? w _ hx290_0)).trans hx290_0; replace p290 := eq_true p290; replace q290 := eq_true q290) | ((with_reducible refine gate_callee (f := 15) rfl ?_); refine goesL_ (some 41) rfl rfl Try.func15 (by kernel_rfl) rfl #[.int .i64 (rd l0 x6_1), .int .i64 9] rfl (by (try simp only [List.map_toArray, List.map_cons, List.map_nil]); first | done | rfl | (simp only [List.length_drop, List.length_take]; rfl)) ?_; (with_reducible refine (abugidaref01_Mod.calls (rd l0 x6_1) 9 t291 _ A16.out).mono ?_); rintro e w' ⟨rfl, ⟨nd, rfl⟩⟩; refine ⟨_, rfl, ?_⟩) | ((with_reducible refine gate_builtin (b := .append) (xs := #[.tmp 36, .tmp 44]) rfl ?_); at_builtin; refine Kd.R_append k55 (w0 := w) w.heap.size rfl (.tmp 36) (.tmp 44) 33 55 (.agg #[(.int .i64 0), (.int .i64 0)]) 16 rfl Try.underlying33 info55 rfl (by decide) (by omega) u3 x3_1 (⟨t291, wrap64 (x4_1 + 1)⟩ : S55) [.int .i64 t291, .int .i64 (wrap64 (x4_1 + 1))] (fun _ => True) (fun _ => False) rfl rfl ?aP (fun _ hk => hk.elim) ?aF ?aO ?aB ?aS ?aL ?_; (case aP => exact k55_mkM _ _ _ (⟨t291, wrap64 (x4_1 + 1)⟩ : S55)); (case aB => exact (by repeat (first | (with_reducible first | exact HB.out | apply below_alloc | apply pw_below_drewN | apply below_drew1) | exact HB.out))); (case aF => exact (fun _ _ => trivial)); (case aO => exact (by (with_reducible repeat (first | apply Kd.R_alloc | apply Kd.R_drewN | apply Kd.R_drew)); exact HO_3.out)); (case aS => exact (below_size (by repeat (first | (with_reducible first | exact HB.out | apply below_alloc | apply pw_below_drewN | apply below_drew1) | exact HB.out)))); (case aL => have := LMc17.out; omega); intro v293 w18 ho hb hg hat; rw [← Ny292.out] at ho; have n0_ := Aside0.mk (hb); have n1_ := Aside0.mk (ho); clear HB; clear HO_3; have HB := n0_; have HO294 := n1_; clear n0_ n1_; clear ho hb hg hat))
                        go_roundg kj1
                        case measure => have := HK1.out; have := HJ1.out; omega
                        case rel => exact ⟨(y292), (wrap64 (x4_1 + 1)), (0 + 1), (wrap64 (x6_1 + 1)), (by first | rfl | (simp; done) | (simp [*]; done)), (by first | rfl | (simp; done) | (simp [*]; done)), (by first | rfl | (simp; done) | (simp [*]; done)), H', ⟨by have := HK1.out; have := HJ1.out; omega⟩, ⟨by (with_reducible repeat (first | apply Kd.R_alloc | apply Kd.R_drewN | apply Kd.R_drew)); exact HO294.out⟩, ⟨by repeat (first | (with_reducible first | exact HB.out | apply below_alloc | apply pw_below_drewN | apply below_drew1) | exact HB.out)⟩⟩
                      · rw [if_neg c17] at H
                        exact absurd H (by simp)
                    · rw [if_neg c15] at H
                      have c15b0 : (t289 == 0) = false := beq_eq_false_iff_ne.mpr c15
                      have c15b1 : (t289 != 0) = true := bne_iff_ne.mpr c15
                      replace H := Option.bind_eq_some_iff.mp H
                      obtain ⟨t296, A190, H⟩ := H
                      replace H : (if x3_1.length < 8796093022208 then (abugidaref16_MadeItems.l0 kj1 l0 (x3_1 ++ [(⟨t296, x4_1⟩ : S55)]) x4_1 (wrap64 (x5_1 + 1)) (wrap64 (x6_1 + 1))) else (none)) = some r := H
                      have A19 := Aside0.mk A190
                      clear A190
                      by_cases c20 : x3_1.length < 8796093022208
                      · rw [if_pos c20] at H
                        have LMc20 := Aside0.mk c20
                        clear c20
                        obtain ⟨y297, hy297⟩ : ∃ y_ : List (S55), y_ = (x3_1 ++ [(⟨t296, x4_1⟩ : S55)]) := ⟨_, rfl⟩
                        replace H : (abugidaref16_MadeItems.l0 kj1 l0 y297 x4_1 (wrap64 (x5_1 + 1)) (wrap64 (x6_1 + 1))) = some r := by first | (rw [hy297]; with_reducible exact H) | (have H2_ := (Option.bind_some _ _).symm.trans H; rw [hy297]; with_reducible exact H2_) | (have H2_ := (Option.bind_some _ _).symm.trans H; with_reducible exact H2_) | with_reducible exact H | (rw [hy297]; exact H) | exact H
                        have Ny297 := Aside0.mk hy297
                        clear hy297
                        have H' := Aside0.mk H
                        clear H
                        have p288 : 0 ≤ (x6_1 : Int) := of_decide_eq_true (by first | (with_reducible assumption) | assumption)
                        have q288 : x6_1 < (l0.length : Int) := of_decide_eq_true (by first | (with_reducible assumption) | assumption)
                        obtain ⟨ad288, e288, hx288_0⟩ := Kd.at_int HR0.out x6_1 p288 q288
                        cases e288
                        replace hx288_0 := (HB.out.cell (World.block_lt_of_cell? w _ hx288_0)).trans hx288_0
                        replace p288 := eq_true p288
                        replace q288 := eq_true q288
                        go_wp2_with (first | (go_at_call 15; (with_reducible refine (abugidaref01_Mod.calls (wrap64 (Int.tdiv (rd l0 x6_1) 9)) 4 t289 _ A14.out).mono ?_); rintro e w' ⟨rfl, ⟨nd, rfl⟩⟩; have p295 : 0 ≤ (x6_1 : Int) := of_decide_eq_true (by first | (with_reducible assumption) | assumption); have q295 : x6_1 < (l0.length : Int) := of_decide_eq_true (by first | (with_reducible assumption) | assumption); obtain ⟨ad295, e295, hx295_0⟩ := Kd.at_int HR0.out x6_1 p295 q295; obtain rfl : ad288 = ad295 := (by injection e295); replace hx295_0 := (HB.out.cell (World.block_lt_of_cell? w _ hx295_0)).trans hx295_0; replace p295 := eq_true p295; replace q295 := eq_true q295) | ((with_reducible refine gate_callee (f := 15) rfl ?_); refine goesL_ (some 41) rfl rfl Try.func15 (by kernel_rfl) rfl #[.int .i64 (rd l0 x6_1), .int .i64 9] rfl (by (try simp only [List.map_toArray, List.map_cons, List.map_nil]); first | done | rfl | (simp only [List.length_drop, List.length_take]; rfl)) ?_; (with_reducible refine (abugidaref01_Mod.calls (rd l0 x6_1) 9 t296 _ A19.out).mono ?_); rintro e w' ⟨rfl, ⟨nd, rfl⟩⟩; refine ⟨_, rfl, ?_⟩) | ((with_reducible refine gate_builtin (b := .append) (xs := #[.tmp 36, .tmp 44]) rfl ?_); at_builtin; refine Kd.R_append k55 (w0 := w) w.heap.size rfl (.tmp 36) (.tmp 44) 33 55 (.agg #[(.int .i64 0), (.int .i64 0)]) 16 rfl Try.underlying33 info55 rfl (by decide) (by omega) u3 x3_1 (⟨t296, x4_1⟩ : S55) [.int .i64 t296, .int .i64 x4_1] (fun _ => True) (fun _ => False) rfl rfl ?aP (fun _ hk => hk.elim) ?aF ?aO ?aB ?aS ?aL ?_; (case aP => exact k55_mkM _ _ _ (⟨t296, x4_1⟩ : S55)); (case aB => exact (by repeat (first | (with_reducible first | exact HB.out | apply below_alloc | apply pw_below_drewN | apply below_drew1) | exact HB.out))); (case aF => exact (fun _ _ => trivial)); (case aO => exact (by (with_reducible repeat (first | apply Kd.R_alloc | apply Kd.R_drewN | apply Kd.R_drew)); exact HO_3.out)); (case aS => exact (below_size (by repeat (first | (with_reducible first | exact HB.out | apply below_alloc | apply pw_below_drewN | apply below_drew1) | exact HB.out)))); (case aL => have := LMc20.out; omega); intro v298 w21 ho hb hg hat; rw [← Ny297.out] at ho; have n0_ := Aside0.mk (hb); have n1_ := Aside0.mk (ho); clear HB; clear HO_3; have HB := n0_; have HO299 := n1_; clear n0_ n1_; clear ho hb hg hat))
                        go_roundg kj1
                        case measure => have := HK1.out; have := HJ1.out; omega
                        case rel => exact ⟨(y297), (x4_1), (wrap64 (x5_1 + 1)), (wrap64 (x6_1 + 1)), (by first | rfl | (simp; done) | (simp [*]; done)), (by first | rfl | (simp; done) | (simp [*]; done)), (by first | rfl | (simp; done) | (simp [*]; done)), H', ⟨by have := HK1.out; have := HJ1.out; omega⟩, ⟨by (with_reducible repeat (first | apply Kd.R_alloc | apply Kd.R_drewN | apply Kd.R_drew)); exact HO299.out⟩, ⟨by repeat (first | (with_reducible first | exact HB.out | apply below_alloc | apply pw_below_drewN | apply below_drew1) | exact HB.out)⟩⟩
                      · rw [if_neg c20] at H
                        exact absurd H (by simp)
                  · rw [if_neg c13] at H
                    exact absurd H (by simp)
                · rw [if_neg c12] at H
                  exact absurd H (by simp)
            · rw [if_neg c5] at H
              have c5b0 : decide (0 < x5_1) = false := decide_eq_false c5
              clear c5
              by_cases c22 : 0 ≤ x6_1
              · rw [if_pos c22] at H
                have c22b0 : decide (0 ≤ x6_1) = true := decide_eq_true c22
                clear c22
                by_cases c23 : x6_1 < (l0.length : Int)
                · rw [if_pos c23] at H
                  have c23b0 : decide (x6_1 < (l0.length : Int)) = true := decide_eq_true c23
                  clear c23
                  replace H := Option.bind_eq_some_iff.mp H
                  obtain ⟨t301, A240, H⟩ := H
                  replace H : (if x3_1.length < 8796093022208 then (abugidaref16_MadeItems.l0 kj1 l0 (x3_1 ++ [(⟨t301, x4_1⟩ : S55)]) x4_1 (wrap64 (x5_1 + 1)) (wrap64 (x6_1 + 1))) else (none)) = some r := H
                  have A24 := Aside0.mk A240
                  clear A240
                  by_cases c25 : x3_1.length < 8796093022208
                  · rw [if_pos c25] at H
                    have LMc25 := Aside0.mk c25
                    clear c25
                    obtain ⟨y302, hy302⟩ : ∃ y_ : List (S55), y_ = (x3_1 ++ [(⟨t301, x4_1⟩ : S55)]) := ⟨_, rfl⟩
                    replace H : (abugidaref16_MadeItems.l0 kj1 l0 y302 x4_1 (wrap64 (x5_1 + 1)) (wrap64 (x6_1 + 1))) = some r := by first | (rw [hy302]; with_reducible exact H) | (have H2_ := (Option.bind_some _ _).symm.trans H; rw [hy302]; with_reducible exact H2_) | (have H2_ := (Option.bind_some _ _).symm.trans H; with_reducible exact H2_) | with_reducible exact H | (rw [hy302]; exact H) | exact H
                    have Ny302 := Aside0.mk hy302
                    clear hy302
                    have H' := Aside0.mk H
                    clear H
                    have p300 : 0 ≤ (x6_1 : Int) := of_decide_eq_true (by first | (with_reducible assumption) | assumption)
                    have q300 : x6_1 < (l0.length : Int) := of_decide_eq_true (by first | (with_reducible assumption) | assumption)
                    obtain ⟨ad300, e300, hx300_0⟩ := Kd.at_int HR0.out x6_1 p300 q300
                    cases e300
                    replace hx300_0 := (HB.out.cell (World.block_lt_of_cell? w _ hx300_0)).trans hx300_0
                    replace p300 := eq_true p300
                    replace q300 := eq_true q300
                    go_wp2_with (first | ((with_reducible refine gate_callee (f := 15) rfl ?_); refine goesL_ (some 41) rfl rfl Try.func15 (by kernel_rfl) rfl #[.int .i64 (rd l0 x6_1), .int .i64 9] rfl (by (try simp only [List.map_toArray, List.map_cons, List.map_nil]); first | done | rfl | (simp only [List.length_drop, List.length_take]; rfl)) ?_; (with_reducible refine (abugidaref01_Mod.calls (rd l0 x6_1) 9 t301 _ A24.out).mono ?_); rintro e w' ⟨rfl, ⟨nd, rfl⟩⟩; refine ⟨_, rfl, ?_⟩) | ((with_reducible refine gate_builtin (b := .append) (xs := #[.tmp 36, .tmp 44]) rfl ?_); at_builtin; refine Kd.R_append k55 (w0 := w) w.heap.size rfl (.tmp 36) (.tmp 44) 33 55 (.agg #[(.int .i64 0), (.int .i64 0)]) 16 rfl Try.underlying33 info55 rfl (by decide) (by omega) u3 x3_1 (⟨t301, x4_1⟩ : S55) [.int .i64 t301, .int .i64 x4_1] (fun _ => True) (fun _ => False) rfl rfl ?aP (fun _ hk => hk.elim) ?aF ?aO ?aB ?aS ?aL ?_; (case aP => exact k55_mkM _ _ _ (⟨t301, x4_1⟩ : S55)); (case aB => exact (by repeat (first | (with_reducible first | exact HB.out | apply below_alloc | apply pw_below_drewN | apply below_drew1) | exact HB.out))); (case aF => exact (fun _ _ => trivial)); (case aO => exact (by (with_reducible repeat (first | apply Kd.R_alloc | apply Kd.R_drewN | apply Kd.R_drew)); exact HO_3.out)); (case aS => exact (below_size (by repeat (first | (with_reducible first | exact HB.out | apply below_alloc | apply pw_below_drewN | apply below_drew1) | exact HB.out)))); (case aL => have := LMc25.out; omega); intro v303 w26 ho hb hg hat; rw [← Ny302.out] at ho; have n0_ := Aside0.mk (hb); have n1_ := Aside0.mk (ho); clear HB; clear HO_3; have HB := n0_; have HO304 := n1_; clear n0_ n1_; clear ho hb hg hat))
                    go_roundg kj1
                    case measure => have := HK1.out; have := HJ1.out; omega
                    case rel => exact ⟨(y302), (x4_1), (wrap64 (x5_1 + 1)), (wrap64 (x6_1 + 1)), (by first | rfl | (simp; done) | (simp [*]; done)), (by first | rfl | (simp; done) | (simp [*]; done)), (by first | rfl | (simp; done) | (simp [*]; done)), H', ⟨by have := HK1.out; have := HJ1.out; omega⟩, ⟨by (with_reducible repeat (first | apply Kd.R_alloc | apply Kd.R_drewN | apply Kd.R_drew)); exact HO304.out⟩, ⟨by repeat (first | (with_reducible first | exact HB.out | apply below_alloc | apply pw_below_drewN | apply below_drew1) | exact HB.out)⟩⟩
                  · rw [if_neg c25] at H
                    exact absurd H (by simp)
                · rw [if_neg c23] at H
                  exact absurd H (by simp)
              · rw [if_neg c22] at H
                exact absurd H (by simp)
          · replace c4 := Bool.eq_false_iff.mpr c4
            subst c4
            have H1 : (some x3_1) = some r := by rw [if_neg (show ¬ (false = true) by decide)] at H; exact H
            clear H
            have H := H1
            clear H1
            obtain rfl := Option.some.inj H
            go_wp2
            go_ret
            exact ⟨_, by first | rfl | (simp [errW_none, errW_some] <;> rfl) | (simp [*, errW_none, errW_some] <;> rfl), by (with_reducible repeat (first | apply Kd.R_alloc | apply Kd.R_drewN | apply Kd.R_drew)); exact HO_3.out, by repeat (first | (with_reducible first | exact HB.out | apply below_alloc | apply pw_below_drewN | apply below_drew1) | exact HB.out)⟩

end Go.Proofs.Ytlgkeaildncojaa.Q
end

/- Made: glyphs that numbers make. -/
import Derived.Test.YtnnkbcgoockniaaC
import Derived.Test.YtnnkbcgoockniaaQx4
import Derived.Deep.RegionLaw
namespace Go.Proofs.Ytnnkbcgoockniaa.Q
open Go.RowKit Go.Shelf Go.Proofs.YtnnkbcgoockniaaW.PrintWords Go.Proofs.YtnnkbcgoockniaaW.PrintLast Go.Proofs.YtnnkbcgoockniaaW.PrintMore
set_option linter.unusedSimpArgs false
set_option linter.unusedVariables false
--BEGIN
/-- The next number that is drawn, and the next place. -/
def nextF (s : List Int) (p n : Int) : Int × Int := if p ≥ (s.length : Int) then (0, p) else ((s.getD p.toNat 0) % n, p + 1)
theorem mod_some (a n : Int) (h0 : 0 < n) (h1 : n ≤ 1000000000) : abugidaref01_Mod.f a n = some (a % n) := by
  unfold abugidaref01_Mod.f
  rw [if_neg (by omega)]
  have h2 := Int.mul_tdiv_add_tmod a n
  have h3 := Int.tmod_lt_of_pos a h0
  have h4 : -n < Int.tmod a n := by
    have := Int.lt_tmod_of_pos a h0
    omega
  have hw : wrap64 (Int.tmod a n + n) = Int.tmod a n + n := by
    unfold wrap64
    omega
  rw [hw, Int.tmod_eq_emod_of_nonneg (by omega)]
  have h5 : Int.tmod a n + n = a + n * (1 - Int.tdiv a n) := by rw [Int.mul_sub]; omega
  rw [h5, Int.add_mul_emod_self_left]
theorem next_some (s : List Int) (p n : Int) (hp : 0 ≤ p) (hl : p ≤ s.length) (hs : s.length ≤ 9223372036854775807) (h0 : 0 < n) (h1 : n ≤ 1000000000) : abugidaref01_Draw_Next.f s p n = some ((nextF s p n).1, (nextF s p n).2) := by
  unfold abugidaref01_Draw_Next.f nextF
  by_cases h : p ≥ (s.length : Int)
  · rw [if_pos h, if_pos h]
  · have w1 : wrap64 (p + 1) = p + 1 := by unfold wrap64; omega
    have w2 : wrap64 (p + 1 - 1) = p := by unfold wrap64; omega
    rw [if_neg h, if_neg h, w1, w2, if_pos hp, if_pos (by omega), mod_some _ _ h0 h1]
    rfl
theorem nextF_p (s : List Int) (p n : Int) (hp : 0 ≤ p) (hl : p ≤ s.length) : 0 ≤ (nextF s p n).2 ∧ (nextF s p n).2 ≤ s.length := by
  unfold nextF
  split <;> dsimp only <;> omega
theorem nextF_v (s : List Int) (p n : Int) (h0 : 0 < n) : 0 ≤ (nextF s p n).1 ∧ (nextF s p n).1 < n := by
  unfold nextF
  split
  · exact ⟨Int.le_refl _, h0⟩
  · exact ⟨Int.emod_nonneg _ (by omega), Int.emod_lt_of_pos _ h0⟩
/-- A drawing variable. -/
def Res.drw (w0 : World) (g : Nat) (s : List Int) (p : Int) : Res := ⟨fun W ok => ok g ∧ IsS48 w0 W g s p, fun {W W' ok ok'} h hm => by
  obtain ⟨h0, A0, c0, h1, h2, h3⟩ := h
  obtain ⟨h4, h5⟩ := hm g h0 (blk_lt h1) (solid_cells h1)
  exact ⟨h5, A0, c0, h4.trans h1, h2, h3⟩⟩
theorem Own.next {w W W' : World} {L : List Res} {K : Nat → Obj → Prop} {g : Nat} {s : List Int} {p p' : Int} (h : Own w W L K) (i : Nat) (hi : L[i]? = some (.drw w g s p)) (hI : IsS48 w W' g s p') (hB : Below w.heap.size w W') (hK : KeepBut W W' g none) : Own w W' (L.set i (.drw w g s p')) K :=
  h.turn i hi (hB.os.trans h.below.os.symm) (hB.tape.trans h.below.tape.symm) (hB.output.trans h.below.output.symm) hK.1 (fun ok hf hp => ⟨⟨hp.1, hI⟩, fun k hk hn => hK.2 k hk (fun e => hn (by
    subst e
    obtain ⟨h0, _, _, h1, _⟩ := hp
    exact ⟨h0, solid_cells h1⟩)) (by simp)⟩)
theorem Own.drw_at {w W : World} {L : List Res} {K : Nat → Obj → Prop} {g : Nat} {s : List Int} {p : Int} (h : Own w W L K) (i : Nat) (hi : L[i]? = some (.drw w g s p)) : IsS48 w W g s p := by
  obtain ⟨_, _, F, h2⟩ := h
  exact (h2 i _ hi).2
/-- A call of Next. -/
theorem next_calls {w W : World} {L : List Res} {K : Nat → Obj → Prop} {g : Nat} {s : List Int} {p v p' : Int} (n : Int) (HO : Own w W L K) (i : Nat) (hi : L[i]? = some (.drw w g s p)) (hp : 0 ≤ p ∧ p ≤ s.length) (hs : s.length ≤ 9223372036854775807) (h0 : 0 < n) (h1 : n ≤ 1000000000) (hn : nextF s p n = (v, p')) :
    Calls Try.prog 17 #[.pointer (some ⟨g, 0, none⟩), .int .i64 n] W fun e W' => e = .returned (.int .i64 v) ∧ Own w W' (L.set i (.drw w g s p')) K :=
  (abugidaref01_Draw_Next.calls g s p n v p' w W (HO.drw_at i hi) HO.below (by rw [next_some s p n hp.1 hp.2 hs h0 h1, hn])).mono fun e W' ⟨he, h2, h3, h4⟩ => ⟨he, HO.next i hi h2 h3 h4⟩
theorem nextF_all (s : List Int) (p n : Int) (hp : 0 ≤ p ∧ p ≤ s.length) (h0 : 0 < n) : ∃ v p', nextF s p n = (v, p') ∧ (0 ≤ v ∧ v < n) ∧ 0 ≤ p' ∧ p' ≤ s.length := ⟨_, _, rfl, nextF_v s p n h0, nextF_p s p n hp.1 hp.2⟩

theorem at_LI {w : World} {A : Option Addr} {n : Nat} {xs : List (List Int)} (h : Kd.C (Kd.slice 3 (Kd.int .i64)) w A n xs) (i : Int) (h0 : 0 ≤ i) (h1 : i < n) : ∃ ad A0 c0, A = some ad ∧ w.cell? (ad.add i.toNat) = some (.slice A0 (xs.getD i.toNat []).length c0) ∧ (xs.getD i.toNat []).length ≤ c0 ∧ (Kd.int .i64).C w A0 (xs.getD i.toNat []).length (xs.getD i.toNat []) := by
  obtain ⟨ad, c, e, _, hK, hc0⟩ := Kd.C_get h ([] : List Int) i h0 h1
  have hc : ∀ j u, c[j]? = some u → w.cell? (ad.add (i.toNat * 1 + j)) = some u := hc0
  obtain ⟨A0, c0, rfl, l0, g0⟩ := hK
  exact ⟨ad, A0, c0, e, by have hq := hc 0 _ rfl; rwa [Nat.mul_one, Nat.add_zero] at hq, l0, g0⟩
def anchor1 (s : List Int) (p : Int) : S33 × Int :=
  (⟨1 + (nextF s p 3).1, (nextF s (nextF s p 3).2 60).1 - 20, (nextF s (nextF s (nextF s p 3).2 60).2 60).1 - 20⟩, (nextF s (nextF s (nextF s p 3).2 60).2 60).2)
/-- j anchors from place p on. -/
def anchorsN (s : List Int) (p : Int) : Nat → List S33 × Int
  | 0 => ([], p)
  | j + 1 => ((anchorsN s p j).1 ++ [(anchor1 s (anchorsN s p j).2).1], (anchor1 s (anchorsN s p j).2).2)
def made1 (s : List Int) : S35 :=
  let a := nextF s 0 60
  let m := nextF s a.2 4
  let xs := anchorsN s m.2 m.1.toNat
  let q := nextF s xs.2 2
  ⟨[], xs.1, if q.1 = 1 then (anchor1 s q.2).1 else ⟨0, 0, 0⟩, a.1 - 10⟩
def madeF (l : List (List Int)) : List S35 := (l.take 12).map made1
theorem anchor1_p (s : List Int) (p : Int) (hp : 0 ≤ p ∧ p ≤ s.length) : 0 ≤ (anchor1 s p).2 ∧ (anchor1 s p).2 ≤ s.length := by
  have h1 := nextF_p s p 3 hp.1 hp.2
  have h2 := nextF_p s _ 60 h1.1 h1.2
  exact nextF_p s _ 60 h2.1 h2.2
theorem anchorsN_p (s : List Int) (p : Int) (hp : 0 ≤ p ∧ p ≤ s.length) : ∀ j, 0 ≤ (anchorsN s p j).2 ∧ (anchorsN s p j).2 ≤ s.length
  | 0 => hp
  | j + 1 => anchor1_p s _ (anchorsN_p s p hp j)
theorem anchorsN_length (s : List Int) (p : Int) : ∀ j, (anchorsN s p j).1.length = j
  | 0 => rfl
  | j + 1 => by simp [anchorsN, anchorsN_length s p j]

theorem hinfo33 : (Try.prog.info? 33).map (fun i => (i.zero, i.size, i.bytes)) = some (some (.agg #[(.int .i64 0), (.int .i64 0), (.int .i64 0)]), 3, 24) := by kernel_rfl
/-- append as a step of a region that draws. -/
theorem ev_append_step {P : Program} {ops : Array Oper} {o : Oper} {a : Act} {Q : Exit → Act → World → Prop} {w W : World} {L : List Res} {K : Nat → Obj → Prop} {Kc : Act → World → Prop} {α : Type} {d : Kd α} {e : Nat} {v : Value} {xs : List α} (i : Nat) (HO : Own w W L K) (hi : L[i]? = some (.row d e w.heap.size v xs)) (hw : Region.wanted o (yielded ops a.tmps) = true) (s x : Operand) (t : TypeId) (z : Value) (bytes : Nat)
    (ho : o.op = .call { callee := .builtin .append, args := #[s, x], argTypes := #[t, t] })
    (ht : P.underlying t = some (.slice e)) (hinfo : (P.info? e).map (fun i => (i.zero, i.size, i.bytes)) = some (some z, d.sz, bytes)) (hz : z.cells.size = d.sz) (hs0 : 0 < d.sz) (hb0 : 0 < bytes)
    (p : α) (cs : List Value) (hs : a.eval s = v) (hx : a.eval x = .slice (some ⟨W.heap.size, 0, none⟩) 1 1) (hM : d.M W w.heap.size (fun _ => False) p cs) (hl : (xs.length + 1) * bytes ≤ 140737488355328)
    (h : ∀ A c W', Own w W' (L.set i (.row d e w.heap.size (.slice A (xs.length + 1) c) (xs ++ [p]))) K → Kc (a.put o.dst (.slice A (xs.length + 1) c)) W') : if Region.wanted o (yielded ops a.tmps) = true then Oper.wp P o a (W.alloc (.cells cs.toArray e)) Kc Q else Kc (a.put o.dst undef) (W.alloc (.cells cs.toArray e)) := by
  obtain ⟨h1, hk0, F, h2⟩ := HO
  have hle := h1.size
  have hR : d.R e W w.heap.size (fun k => w.heap.size ≤ k ∧ (k < W.heap.size → F k = i)) v xs := Kd.R_mono (Kd.R_bound (h2 i _ hi)) (fun k hk => ⟨hk.1.1, fun _ => hk.1.2⟩)
  refine Kd.R_append_step d (w0 := w) w.heap.size hw s x t e z bytes ho ht hinfo hz hs0 hb0 v xs p cs _ (fun _ => False) hs hx hM (fun _ hk => hk.elim) (fun k hk => ⟨by omega, fun hl => by omega⟩) hR h1 hle hl ?_
  intro v1 w1 hR1 hb1 hg1 hat
  obtain ⟨A, c, rfl⟩ := Kd.R_slice hR1
  rw [List.length_append, List.length_singleton] at hR1 ⊢
  have hSol : ∀ k, some k = v.ownBlock → Solid W k := fun k he => by obtain ⟨_, inner, ho2, _⟩ := hR; obtain ⟨cs2, hc2⟩ := own_typed ho2 k he.symm; exact solid_cells hc2
  refine h A c w1 ⟨hb1, fun k o hk => ⟨(hg1.block k (blk_lt (hk0 k o hk).1) (fun he => not_solid (hk0 k o hk).1 (hk0 k o hk).2 (hSol k he))).trans (hk0 k o hk).1, (hk0 k o hk).2⟩, fun k => if k < W.heap.size then F k else i, fun j q hj => ?_⟩
  have hil : i < L.length := (List.getElem?_eq_some_iff.mp hi).1
  rw [List.getElem?_set] at hj
  by_cases e1 : i = j
  · subst e1
    rw [if_pos rfl, if_pos hil] at hj
    injection hj with hj
    subst hj
    refine Kd.R_mono hR1 (fun k hk => ⟨hk.1, ?_⟩)
    dsimp only
    split
    · rename_i hlt; exact hk.2 hlt
    · rfl
  · rw [if_neg e1] at hj
    refine q.move (h2 j q hj) (fun k hk hl _ => ⟨hg1.block k hl (fun he => e1 ?_), hk.1, by dsimp only; rw [if_pos hl]; exact hk.2⟩)
    exact ((h2 i _ hi).1 k he.symm).2.symm.trans hk.2

set_option maxRecDepth 100000 in
set_option maxHeartbeats 4000000 in
theorem made_calls (A : Option Addr) (c : Nat) (l : List (List Int)) (w : World) (hr : Kd.C (Kd.slice 3 (Kd.int .i64)) w A l.length l) (hc : l.length ≤ c) (hll : ∀ s ∈ l, s.length ≤ 9223372036854775807) :
    Calls Try.prog 11 #[.slice A l.length c] w fun e w' => ∃ v, e = .returned v ∧ Kd.R k35 35 w' w.heap.size (fun _ => True) v (madeF l) ∧ Below w.heap.size w w' := by
  have HR := Aside0.mk hr
  have hlm : (l.length : Int) ≤ 9223372036854775807 := by have := Kd.C_max hr; omega
  have HLL := Aside0.mk hll
  have HO := (Own.start w).newrow k35 35
  clear hr hc hll
  go_enter Try.func11, Try.ntmps11
  go_wp2
  go_loopw [3, 4] (fun v3 v4 w' => ∃ (k : Nat) (out : List S35) (A3 : Option Addr) (c3 : Nat), v4 = .int .i64 k ∧ v3 = .slice A3 k c3 ∧ Aside0 (k ≤ l.length ∧ k ≤ 12) ∧ Aside0 (out = (l.take k).map made1) ∧ Aside0 (Own w w' [.row k35 35 w.heap.size (.slice A3 k c3) out])) (fun _ v4 _ => l.length - (intOf v4).toNat)
  case atStart => exact ⟨0, [], none, 0, rfl, rfl, ⟨Nat.zero_le _, by omega⟩, ⟨rfl⟩, ⟨HO⟩⟩
  case round =>
    clear HO
    obtain ⟨k, out, A3, c3, rfl, rfl, HK, HOUT, HOO⟩ := hrel
    have HO := HOO.out
    clear HOO
    by_cases hlt : k < l.length
    case neg =>
      have hkl : k = l.length := by have := HK.out; omega
      have q1 : ¬ ((k : Int) < (l.length : Int)) := by omega
      have HF := Aside0.mk (show madeF l = out by rw [HOUT.out, madeF, hkl, List.take_of_length_le (Nat.le_refl _), List.take_of_length_le (by have := HK.out; omega)])
      clear hlt hkl
      go_wp2
      go_ret
      exact ⟨_, rfl, by rw [HF.out]; exact HO.row_R 0 rfl, HO.below⟩
    by_cases h12 : k < 12
    case neg =>
      have q1 : ((k : Int) < (l.length : Int)) = True := eq_true (by omega)
      have q2 : ¬ ((k : Int) < 12) := by omega
      have HF := Aside0.mk (show madeF l = out by rw [HOUT.out, madeF, show k = 12 by have := HK.out; omega])
      clear hlt h12
      go_wp2
      go_ret
      exact ⟨_, rfl, by rw [HF.out]; exact HO.row_R 0 rfl, HO.below⟩
    have q1 : ((k : Int) < (l.length : Int)) = True := eq_true (by omega)
    have q2 : ((k : Int) < 12) = True := eq_true (by omega)
    have p1 : (0 ≤ (k : Int)) = True := eq_true (by omega)
    obtain ⟨ad, A0, c0, rfl, x0, y0, y1⟩ := at_LI HR.out (k : Int) (by omega) (by omega)
    rw [Int.toNat_natCast] at x0 y0 y1
    replace x0 := pw_cell_below HO.below x0
    have HSL := Aside0.mk (HLL.out (l.getD k []) (by rw [List.getD_eq_getElem?_getD, List.getElem?_eq_getElem hlt]; exact List.getElem_mem _))
    have HNX := Aside0.mk (show (l.take (k + 1)).map made1 = out ++ [made1 (l.getD k [])] by rw [HOUT.out, List.take_succ_eq_append_getElem hlt, List.map_append, List.getD_eq_getElem?_getD, List.getElem?_eq_getElem hlt]; rfl)
    have HLN := Aside0.mk (show out.length = k ∧ k < 12 ∧ k < l.length by rw [HOUT.out, List.length_map, List.length_take]; omega)
    have HY := Aside0.mk (And.intro y0 y1)
    obtain ⟨s, hs⟩ : ∃ s, l.getD k [] = s := ⟨_, rfl⟩
    rw [hs] at x0 HSL HNX HY
    clear hs y0 y1 hlt h12
    have hkb : (k : Int) + 1 ≤ 12 := by have := HLN.out; omega
    obtain ⟨a1, p1', hn1, ⟨a1l, a1h⟩, hp1⟩ := nextF_all s 0 60 ⟨Int.le_refl _, by omega⟩ (by decide)
    obtain ⟨m, p2', hn2, ⟨ml, mh⟩, hp2⟩ := nextF_all s p1' 4 hp1 (by decide)
    have HN1 := Aside0.mk hn1
    have HN2 := Aside0.mk hn2
    have HP1 := Aside0.mk hp1
    have HP2 := Aside0.mk hp2
    have HP0 := Aside0.mk (show (0 : Int) ≤ 0 ∧ (0 : Int) ≤ s.length from ⟨Int.le_refl _, by omega⟩)
    obtain ⟨mm, rfl⟩ := Int.eq_ofNat_of_zero_le ml
    clear hn1 hn2 hp1 hp2
    go_wp2_with (first
      | ((with_reducible refine gate_dst (N := 24) rfl ?_); refine ev_box (N := 24) (cs := #[.slice A0 s.length c0, .int .i64 0]) (t := 48) HO rfl rfl ?hr ?_; (case hr => first | (go_simp; done) | (go_simp; rfl)); intro g5 W1 HO1 hb1; have hge := (HO1.box_at 1 rfl).2; have HO2 := HO1.say 1 (r' := .drw w g5 s 0) rfl (fun ok h_ => ⟨h_.1, A0, c0, h_.2, hge, HY.out.2⟩); clear HO HO1 hb1 hge x0)
      | (go_simp; go_at_call 17; (with_reducible refine (next_calls 60 HO2 1 rfl HP0.out HSL.out (by decide) (by decide) HN1.out).mono ?_); rintro e W' ⟨rfl, HO3⟩; clear HO2)
      | ((with_reducible refine gate_dst (N := 6) rfl ?_); refine ev_box (N := 6) (cs := #[.slice none 0 0, .slice none 0 0, .int .i64 0, .int .i64 0, .int .i64 0, .int .i64 0]) (t := 35) HO3 rfl rfl ?hr ?_; (case hr => first | (go_simp; done) | (go_simp; rfl)); intro g6 W4 HO4 hb4; clear HO3 hb4)
      | ((with_reducible refine gate_store (t := 35) (p := 6) rfl ?_); refine ev_store (cs' := #[.slice none 0 0, .slice none 0 0, .int .i64 0, .int .i64 0, .int .i64 0, .int .i64 (a1 - 10)]) (.agg #[.slice none 0 0, .slice none 0 0, .int .i64 0, .int .i64 0, .int .i64 0, .int .i64 (a1 - 10)]) 2 HO4 rfl rfl rfl rfl 0 rfl rfl sz35 (by simp [Value.oneCell', Value.cells]) (Nat.le_refl _) rfl ?_; intro W5 HO5; clear HO4)
      | (go_at_call 17; (with_reducible refine (next_calls 4 HO5 1 rfl HP1.out HSL.out (by decide) (by decide) HN2.out).mono ?_); rintro e W' ⟨rfl, HO6⟩; clear HO5))
    have HO := HO6.newrow k33 33
    clear HO6
    go_loopw [8] (fun v8 w' => ∃ (j : Nat) (as_ : List S33) (pj : Int) (A4 : Option Addr) (c4 : Nat), v8 = .int .i64 j ∧ Aside0 (j ≤ mm) ∧ Aside0 (anchorsN s p2' j = (as_, pj)) ∧ Aside0 (Own w w' [.row k35 35 w.heap.size (.slice A3 k c3) out, .drw w g5 s pj, .box g6 35 #[.slice none 0 0, .slice A4 j c4, .int .i64 0, .int .i64 0, .int .i64 0, .int .i64 (a1 - 10)], .row k33 33 w.heap.size (.slice A4 j c4) as_])) (fun v8 _ => mm - (intOf v8).toNat)
    case atStart => exact ⟨0, [], p2', none, 0, rfl, ⟨Nat.zero_le _⟩, ⟨rfl⟩, ⟨HO⟩⟩
    case round =>
      clear HO
      obtain ⟨j, as_, pj, A4, c4, rfl, HJ, HAN, HOO⟩ := hrel
      have HO := HOO.out
      clear HOO
      have hpj := anchorsN_p s p2' HP2.out j
      have hal := anchorsN_length s p2' j
      rw [HAN.out] at hpj hal
      have HAL := Aside0.mk (show as_.length = j from hal)
      by_cases hjm : j < mm
      · have qj : ((j : Int) < (mm : Int)) = True := eq_true (by omega)
        have hjb : (j : Int) + 1 ≤ 1000 := by omega
        obtain ⟨b1, r1, hm1, ⟨b1l, b1h⟩, hr1⟩ := nextF_all s pj 3 hpj (by decide)
        obtain ⟨b2, r2, hm2, ⟨b2l, b2h⟩, hr2⟩ := nextF_all s r1 60 hr1 (by decide)
        obtain ⟨b3, r3, hm3, ⟨b3l, b3h⟩, hr3⟩ := nextF_all s r2 60 hr2 (by decide)
        have HM1 := Aside0.mk hm1
        have HM2 := Aside0.mk hm2
        have HM3 := Aside0.mk hm3
        have HR0 := Aside0.mk (show 0 ≤ pj ∧ pj ≤ s.length from hpj)
        have HR1 := Aside0.mk hr1
        have HR2 := Aside0.mk hr2
        have HAN2 := Aside0.mk (show anchorsN s p2' (j + 1) = (as_ ++ [⟨1 + b1, b2 - 20, b3 - 20⟩], r3) by
          simp only [anchorsN, HAN.out, anchor1, hm1, hm2, hm3])
        have HJM := Aside0.mk hjm
        have HWP := Aside0.mk (show IntKind.i64.wrap (1 + b1) = 1 + b1 ∧ IntKind.i64.wrap (b2 - 20) = b2 - 20 ∧ IntKind.i64.wrap (b3 - 20) = b3 - 20 from ⟨IntWalk.i64_in _ (by omega), IntWalk.i64_in _ (by omega), IntWalk.i64_in _ (by omega)⟩)
        have x1 := HO.box_cell 2 rfl 1 rfl
        clear hm1 hm2 hm3 hr1 hr2 hr3 hpj hjm hal
        go_wp2
        go_region_law (first | (go_simp; go_at_call 17; (with_reducible refine (next_calls 3 HO.drew 1 rfl HR0.out HSL.out (by decide) (by decide) HM1.out).mono ?_); rintro e W' ⟨rfl, HO1⟩; clear HO x1; have x2 := HO1.box_cell 2 rfl 1 rfl) | (go_simp; go_at_call 17; (with_reducible refine (next_calls 60 HO1 1 rfl HR1.out HSL.out (by decide) (by decide) HM2.out).mono ?_); rintro e W' ⟨rfl, HO2⟩; clear HO1 x2; have x3 := HO2.box_cell 2 rfl 1 rfl) | (go_simp; go_at_call 17; (with_reducible refine (next_calls 60 HO2 1 rfl HR2.out HSL.out (by decide) (by decide) HM3.out).mono ?_); rintro e W' ⟨rfl, HO3⟩; clear HO2 x3; have x4 := HO3.box_cell 2 rfl 1 rfl; have x6 := fun o_ => (HO3.alloc o_).box_cell 2 rfl 1 rfl) | (refine ev_append_step (d := k33) 3 HO3 rfl (by rfl) (.tmp 37) (.tmp 48) 31 (.agg #[.int .i64 0, .int .i64 0, .int .i64 0]) 24 rfl Try.underlying31 hinfo33 rfl (by decide) (by decide) (⟨IntKind.i64.wrap (1 + b1), IntKind.i64.wrap (b2 - 20), IntKind.i64.wrap (b3 - 20)⟩ : S33) [.int .i64 (IntKind.i64.wrap (1 + b1)), .int .i64 (IntKind.i64.wrap (b2 - 20)), .int .i64 (IntKind.i64.wrap (b3 - 20))] rfl rfl (k33_mkM _ _ _ _) ?_ ?_; (have := HAL.out; omega); intro A5 c5 W5 HO5; clear HO3 x4 x6; have x5 := HO5.box_cell 2 rfl 1 rfl; have f5 := HO5.box_free 2 rfl 1))
        all_goals
          have HO6 := HO5.put 2 rfl 1 (.slice A5 (as_.length + 1) c5) (Nat.le_add_right 2 4) rfl
          rw [HWP.out.1, HWP.out.2.1, HWP.out.2.2, HAL.out] at HO6
          rw [HAL.out]
          go_wp2
          go_roundw
          case rel => exact ⟨j + 1, _, r3, A5, c5, by go_num, HJM, HAN2, ⟨HO6⟩⟩
          case measure => have := HJM.out; simp [intOf]; omega
      · have hjj : j = mm := by have := HJ.out; omega
        have qj : ¬ ((j : Int) < (mm : Int)) := by omega
        obtain ⟨q, pq, hq, ⟨ql, qh⟩, hpq⟩ := nextF_all s pj 2 hpj (by decide)
        have HQ := Aside0.mk hq
        have HPJ := Aside0.mk (show 0 ≤ pj ∧ pj ≤ s.length from hpj)
        have HPQ := Aside0.mk hpq
        have hmd : made1 s = ⟨[], as_, if q = 1 then (anchor1 s pq).1 else ⟨0, 0, 0⟩, a1 - 10⟩ := by
          have e1 := HN1.out
          have e2 := HN2.out
          have e3 := HAN.out
          rw [hjj] at e3
          simp only [made1, e1, e2, e3, hq, Int.ofNat_eq_natCast, Int.toNat_natCast]
        clear hq hpq hpj hjm hal
        by_cases q1_ : q = 1
        · have qb : (q == 1) = true := beq_iff_eq.mpr q1_
          obtain ⟨b1, r1, hm1, ⟨b1l, b1h⟩, hr1⟩ := nextF_all s pq 3 HPQ.out (by decide)
          obtain ⟨b2, r2, hm2, ⟨b2l, b2h⟩, hr2⟩ := nextF_all s r1 60 hr1 (by decide)
          obtain ⟨b3, r3, hm3, ⟨b3l, b3h⟩, hr3⟩ := nextF_all s r2 60 hr2 (by decide)
          have HM1 := Aside0.mk hm1
          have HM2 := Aside0.mk hm2
          have HM3 := Aside0.mk hm3
          have HR1 := Aside0.mk hr1
          have HR2 := Aside0.mk hr2
          have HMD := Aside0.mk (show made1 s = (⟨[], as_, ⟨1 + b1, b2 - 20, b3 - 20⟩, a1 - 10⟩ : S35) by rw [hmd, if_pos q1_]; simp only [anchor1, hm1, hm2, hm3])
          clear hm1 hm2 hm3 hr1 hr2 hr3 hmd hjj q1_
          go_wp2_with (first
            | (go_at_call 17; (with_reducible refine (next_calls 2 HO 1 rfl HPJ.out HSL.out (by decide) (by decide) HQ.out).mono ?_); rintro e W' ⟨rfl, HO1⟩; clear HO)
            | (go_at_call 17; (with_reducible refine (next_calls 3 HO1 1 rfl HPQ.out HSL.out (by decide) (by decide) HM1.out).mono ?_); rintro e W' ⟨rfl, HO2⟩; clear HO1)
            | (go_at_call 17; (with_reducible refine (next_calls 60 HO2 1 rfl HR1.out HSL.out (by decide) (by decide) HM2.out).mono ?_); rintro e W' ⟨rfl, HO3⟩; clear HO2)
            | (go_at_call 17; (with_reducible refine (next_calls 60 HO3 1 rfl HR2.out HSL.out (by decide) (by decide) HM3.out).mono ?_); rintro e W' ⟨rfl, HO4⟩; clear HO3)
            | ((with_reducible refine gate_store (t := 33) (p := 64) rfl ?_); refine ev_store (cs' := #[.slice none 0 0, .slice A4 j c4, .int .i64 (1 + b1), .int .i64 (b2 - 20), .int .i64 (b3 - 20), .int .i64 (a1 - 10)]) (.agg #[.int .i64 (1 + b1), .int .i64 (b2 - 20), .int .i64 (b3 - 20)]) 2 HO4 rfl rfl rfl rfl 2 rfl rfl sz33 (by simp [Value.oneCell', Value.cells]) (Nat.le_add_right 5 1) rfl ?_; intro W6 HO6; clear HO4; have y0 := HO6.box_cell 2 rfl 0 rfl; have y1 := HO6.box_cell 2 rfl 1 rfl; have y2 := HO6.box_cell 2 rfl 2 rfl; have y3 := HO6.box_cell 2 rfl 3 rfl; have y4 := HO6.box_cell 2 rfl 4 rfl; have y5 := HO6.box_cell 2 rfl 5 rfl)
            | ((with_reducible refine gate_builtin (b := .append) (xs := #[.tmp 65, .tmp 67]) rfl ?_); at_builtin; have HV := HO6.say 3 (r' := .val k35 w.heap.size (⟨[], as_, ⟨1 + b1, b2 - 20, b3 - 20⟩, a1 - 10⟩ : S35) [.slice none 0 0, .slice A4 j c4, .int .i64 (1 + b1), .int .i64 (b2 - 20), .int .i64 (b3 - 20), .int .i64 (a1 - 10)]) rfl (fun ok h_ => k35_mkM _ _ _ (⟨[], as_, ⟨1 + b1, b2 - 20, b3 - 20⟩, a1 - 10⟩ : S35) (Kd.R_nil _ _ _ _ _) h_); refine ev_appendv 0 3 (by decide) HV rfl rfl rfl (.tmp 65) (.tmp 67) 24 (.agg #[.slice none 0 0, .slice none 0 0, .int .i64 0, .int .i64 0, .int .i64 0, .int .i64 0]) 80 rfl Try.underlying24 info35 rfl (by decide) (by decide) rfl rfl ?aL ?_; (case aL => have := HLN.out; omega); intro A5 c5 W5 HO9; clear HV HO6 y0 y1 y2 y3 y4 y5))
          go_roundw
          case rel => exact ⟨k + 1, out ++ [(⟨[], as_, ⟨1 + b1, b2 - 20, b3 - 20⟩, a1 - 10⟩ : S35)], A5, c5, by go_num, by rw [HLN.out.1], ⟨by have := HLN.out; omega⟩, ⟨by rw [HNX.out, HMD.out]⟩, ⟨by have h := HO9.upto 1; rw [HLN.out.1] at h; exact h⟩⟩
          case measure => have := HLN.out; simp [intOf]; omega
        · have qb : (q == 1) = false := beq_eq_false_iff_ne.mpr q1_
          have HMD := Aside0.mk (show made1 s = (⟨[], as_, ⟨0, 0, 0⟩, a1 - 10⟩ : S35) by rw [hmd, if_neg q1_])
          clear hmd hjj q1_
          go_wp2_with (first
            | (go_at_call 17; (with_reducible refine (next_calls 2 HO 1 rfl HPJ.out HSL.out (by decide) (by decide) HQ.out).mono ?_); rintro e W' ⟨rfl, HO1⟩; clear HO; have y0 := HO1.box_cell 2 rfl 0 rfl; have y1 := HO1.box_cell 2 rfl 1 rfl; have y2 := HO1.box_cell 2 rfl 2 rfl; have y3 := HO1.box_cell 2 rfl 3 rfl; have y4 := HO1.box_cell 2 rfl 4 rfl; have y5 := HO1.box_cell 2 rfl 5 rfl)
            | ((with_reducible refine gate_builtin (b := .append) (xs := #[.tmp 65, .tmp 67]) rfl ?_); at_builtin; have HV := HO1.say 3 (r' := .val k35 w.heap.size (⟨[], as_, ⟨0, 0, 0⟩, a1 - 10⟩ : S35) [.slice none 0 0, .slice A4 j c4, .int .i64 0, .int .i64 0, .int .i64 0, .int .i64 (a1 - 10)]) rfl (fun ok h_ => k35_mkM _ _ _ (⟨[], as_, ⟨0, 0, 0⟩, a1 - 10⟩ : S35) (Kd.R_nil _ _ _ _ _) h_); refine ev_appendv 0 3 (by decide) HV rfl rfl rfl (.tmp 65) (.tmp 67) 24 (.agg #[.slice none 0 0, .slice none 0 0, .int .i64 0, .int .i64 0, .int .i64 0, .int .i64 0]) 80 rfl Try.underlying24 info35 rfl (by decide) (by decide) rfl rfl ?aL ?_; (case aL => have := HLN.out; omega); intro A5 c5 W5 HO9; clear HV HO1 y0 y1 y2 y3 y4 y5))
          go_roundw
          case rel => exact ⟨k + 1, out ++ [(⟨[], as_, ⟨0, 0, 0⟩, a1 - 10⟩ : S35)], A5, c5, by go_num, by rw [HLN.out.1], ⟨by have := HLN.out; omega⟩, ⟨by rw [HNX.out, HMD.out]⟩, ⟨by have h := HO9.upto 1; rw [HLN.out.1] at h; exact h⟩⟩
          case measure => have := HLN.out; simp [intOf]; omega
--END
end Go.Proofs.Ytnnkbcgoockniaa.Q

/- The walk of SetsOwn. -/
import Derived.Test.YtfjiamhgennmbaaQx7
import Derived.Test.YtfjiamhgennmbaaQx8
namespace Go.Proofs.Ytfjiamhgennmbaa.Q
open Go.RowKit Go.Proofs.YtfjiamhgennmbaaW.PrintWords Go.Proofs.YtfjiamhgennmbaaW.PrintLast Go.Proofs.YtfjiamhgennmbaaW.PrintMore
set_option linter.unusedSimpArgs false
set_option linter.unusedVariables false

/-- A row behind block B that may be stored into. -/
def Good (B : Nat) (w : World) (v : Value) : Prop := ∃ A n c, v = .slice A n c ∧ n ≤ 1000000 ∧ (n = 0 ∨ ∃ g cells, A = some ⟨g, 0, none⟩ ∧ B ≤ g ∧ w.heap[g]? = some (.cells cells 3 (0, 0)) ∧ n ≤ cells.size ∧ n ≤ c)
theorem good_of_R {B : Nat} {w : World} {ok : Nat → Prop} {v : Value} {L : List Int} (h : Kd.R (Kd.int .i64) 3 w B ok v L) (hl : L.length ≤ 1000000) : Good B w v := by
  have ho := Kd.own_of_R h
  rcases ho.2 with ⟨e1, e2⟩ | ⟨g, cap, cur, e1, h1, h2, h3, h4, h5, h6⟩
  · exact ⟨none, 0, 0, e1, by omega, .inl rfl⟩
  · exact ⟨_, _, _, e1, hl, .inr ⟨g, cur, rfl, h1, h2, by omega, h3⟩⟩
theorem good_kept {B : Nat} {w w' : World} {v : Value} (h : Good B w v) (hs : ∀ (g : Nat) (cells : Array Value), w.heap[g]? = some (Obj.cells cells 3 (0, 0)) → ∃ cells' : Array Value, w'.heap[g]? = some (Obj.cells cells' 3 (0, 0)) ∧ cells'.size = cells.size) : Good B w' v := by
  obtain ⟨A, n, c, rfl, hn, h⟩ := h
  refine ⟨A, n, c, rfl, hn, ?_⟩
  rcases h with h | ⟨g, cells, rfl, h1, h2, h3, h4⟩
  · exact .inl h
  · obtain ⟨cells', h5, h6⟩ := hs g cells h2
    exact .inr ⟨g, cells', rfl, h1, h5, by omega, h4⟩
theorem set_shape {w : World} {a : Addr} {u : Value} (g : Nat) (cells : Array Value) (h : w.heap[g]? = some (.cells cells 3 (0, 0))) : ∃ cells', (w.setCell a u).heap[g]? = some (.cells cells' 3 (0, 0)) ∧ cells'.size = cells.size := by
  by_cases hg : g = a.block
  · subst hg
    refine ⟨if a.spot.isSome then cells else cells.setIfInBounds a.off u, ?_, by split <;> simp⟩
    simp [World.setCell, Array.getElem?_modify, h]
  · exact ⟨cells, (Below.heap_setCell w a u g hg).trans h, rfl⟩

def SetsOwn_f (k : Nat) (l0 l1 : List Int) : Option Bool := (abugidalaw15_sanity.f k).bind fun ok => (abugidalaw15_few.f l0).bind fun a => (abugidalaw15_few.f l1).bind fun b => (abugidaref15_Norm.f k a).bind fun s => (abugidaref15_Norm.f k a).bind fun s2 =>
  (sets_Norm.f s).bind fun r0 => (sets_Join.f s []).bind fun r1 => (sets_Join.f [] s).bind fun r2 => (sets_Meet.f s s).bind fun r3 => (sets_Less.f s b).bind fun r4 => if r0.length ≤ 1000 ∧ r1.length ≤ 1000 ∧ r2.length ≤ 1000 ∧ r3.length ≤ 1000 ∧ r4.length ≤ 1000 then (if ok = true then abugidaref15_Same.f k s s2 else some false) else none

set_option maxHeartbeats 8000000 in
set_option maxRecDepth 100000 in
theorem own_calls (k : Nat) (A0 : Option Addr) (c0 : Nat) (l0 : List Int) (A1 : Option Addr) (c1 : Nat) (l1 : List Int) (r : Bool) (w : World) (hr0 : Kd.C (Kd.int .i64) w A0 l0.length l0) (hc0 : l0.length ≤ c0) (hr1 : Kd.C (Kd.int .i64) w A1 l1.length l1) (hc1 : l1.length ≤ c1) (h : SetsOwn_f k l0 l1 = some r) :
    Calls Try.prog 9 #[.slice A0 l0.length c0, .slice A1 l1.length c1] w fun e w' => e = .returned (.bool r) ∧ Below w.heap.size w w' := by
  unfold SetsOwn_f at h
  obtain ⟨ok, X1, h⟩ := Option.bind_eq_some_iff.mp h
  obtain ⟨a, X2, h⟩ := Option.bind_eq_some_iff.mp h
  obtain ⟨b, X3, h⟩ := Option.bind_eq_some_iff.mp h
  obtain ⟨s, X4, h⟩ := Option.bind_eq_some_iff.mp h
  obtain ⟨s2, X5, h⟩ := Option.bind_eq_some_iff.mp h
  obtain ⟨r0, X6, h⟩ := Option.bind_eq_some_iff.mp h
  obtain ⟨r1, X7, h⟩ := Option.bind_eq_some_iff.mp h
  obtain ⟨r2, X8, h⟩ := Option.bind_eq_some_iff.mp h
  obtain ⟨r3, X9, h⟩ := Option.bind_eq_some_iff.mp h
  obtain ⟨r4, X10, h⟩ := Option.bind_eq_some_iff.mp h
  by_cases hln : r0.length ≤ 1000 ∧ r1.length ≤ 1000 ∧ r2.length ≤ 1000 ∧ r3.length ≤ 1000 ∧ r4.length ≤ 1000
  case neg => rw [if_neg hln] at h; cases h
  rw [if_pos hln] at h
  obtain ⟨n0, n1, n2, n3, n4⟩ := hln
  have HH := Aside0.mk h
  have HN := Aside0.mk (And.intro n0 (And.intro n1 (And.intro n2 (And.intro n3 n4))))
  have HR0 := Aside0.mk hr0
  have HC0 := Aside0.mk hc0
  have HR1 := Aside0.mk hr1
  have HC1 := Aside0.mk hc1
  have C1 := fun w => abugidalaw15_sanity.calls k ok w X1
  have C2 := fun w h1 => abugidalaw15_few.calls A0 c0 l0 a w h1 hc0 X2
  have C3 := fun w h1 => abugidalaw15_few.calls A1 c1 l1 b w h1 hc1 X3
  have C4 := fun A c w h1 h2 => abugidaref15_Norm.calls k A c a s w h1 h2 X4
  have C5 := fun A c w h1 h2 => abugidaref15_Norm.calls k A c a s2 w h1 h2 X5
  have C6 := fun A c w h1 h2 => sets_Norm.calls A c s r0 w h1 h2 X6
  have C7 : ∀ A c w, Kd.C (Kd.int .i64) w A s.length s → s.length ≤ c → Calls Try.prog 19 #[.slice A s.length c, .slice none 0 0] w fun e w' => ∃ v0_ : Value, e = .returned (v0_) ∧ Kd.R (Kd.int .i64) 3 w' w.heap.size (fun _ => True) v0_ r1 ∧ Below w.heap.size w w' := fun A c w h1 h2 => sets_Join.calls A c s none 0 [] r1 w h1 h2 (Kd.C_nil _ _) (Nat.le_refl _) X7
  have C8 : ∀ A c w, Kd.C (Kd.int .i64) w A s.length s → s.length ≤ c → Calls Try.prog 19 #[.slice none 0 0, .slice A s.length c] w fun e w' => ∃ v0_ : Value, e = .returned (v0_) ∧ Kd.R (Kd.int .i64) 3 w' w.heap.size (fun _ => True) v0_ r2 ∧ Below w.heap.size w w' := fun A c w h1 h2 => sets_Join.calls none 0 [] A c s r2 w (Kd.C_nil _ _) (Nat.le_refl _) h1 h2 X8
  have C9 := fun A c w h1 h2 => sets_Meet.calls A c s A c s r3 w h1 h2 h1 h2 X9
  have C10 := fun A c A' c' w h1 h2 h3 h4 => sets_Less.calls A c s A' c' b r4 w h1 h2 h3 h4 X10
  have S0 := Aside0.mk (Below.refl w.heap.size w)
  clear X1 X2 X3 X4 X5 X6 X7 X8 X9 X10 h n0 n1 n2 n3 n4 hr0 hc0 hr1 hc1
  go_enter Try.func9, Try.ntmps9
  go_wp2_with (first
    | (go_at_call 10; (with_reducible refine (C1 _).mono ?_); rintro e w1 ⟨rfl, hb⟩; have S1 := Aside0.mk (below_step S0.out hb); clear S0 hb)
    | (go_at_call 11; (with_reducible refine (C2 _ (Kd.C_below HR0.out S1.out)).mono ?_); rintro e w2 ⟨va, rfl, ho, hb⟩; have S2 := Aside0.mk (below_step S1.out hb); have OA := Aside0.mk (Kd.R_lower ho S1.out.size); obtain ⟨Aa, ca, ea⟩ := Kd.R_slice OA.out; subst ea; clear S1 ho hb)
    | (go_at_call 11; (with_reducible refine (C3 _ (Kd.C_below HR1.out S2.out)).mono ?_); rintro e w3 ⟨vb, rfl, ho, hb⟩; have S3 := Aside0.mk (below_step S2.out hb); have OB := Aside0.mk (Kd.R_lower ho S2.out.size); have OA3 := Aside0.mk (Kd.R_below OA.out hb); obtain ⟨Ab, cb, eb⟩ := Kd.R_slice OB.out; subst eb; clear S2 ho hb OA)
    | (go_at_call 14; (with_reducible refine (C4 _ _ _ (Kd.R_reads' OA3.out).2.2 (Kd.R_reads' OA3.out).2.1).mono ?_); rintro e w4 ⟨vs, rfl, ho, hb⟩; have S4 := Aside0.mk (below_step S3.out hb); have OS := Aside0.mk (Kd.R_lower ho S3.out.size); have OA4 := Aside0.mk (Kd.R_below OA3.out hb); have OB4 := Aside0.mk (Kd.R_below OB.out hb); obtain ⟨As, cs, es⟩ := Kd.R_slice OS.out; subst es; clear S3 ho hb OA3 OB)
    | (go_at_call 14; (with_reducible refine (C5 _ _ _ (Kd.R_reads' OA4.out).2.2 (Kd.R_reads' OA4.out).2.1).mono ?_); rintro e w5 ⟨vt, rfl, ho, hb⟩; have S5 := Aside0.mk (below_step S4.out hb); have OT := Aside0.mk (Kd.R_lower ho S4.out.size); have OS5 := Aside0.mk (Kd.R_below OS.out hb); have OB5 := Aside0.mk (Kd.R_below OB4.out hb); obtain ⟨At, ct, et⟩ := Kd.R_slice OT.out; subst et; have T5 := Aside0.mk (Below.refl w5.heap.size w5); clear S4 ho hb OA4 OB4 OS)
    | (go_at_call 13; (with_reducible refine (C6 _ _ _ (Kd.C_below (Kd.R_reads' OS5.out).2.2 T5.out) (Kd.R_reads' OS5.out).2.1).mono ?_); rintro e w6 ⟨v0, rfl, ho, hb⟩; have T6 := Aside0.mk (below_step T5.out hb); have O0 := Aside0.mk (Kd.R_lower ho T5.out.size); obtain ⟨E0, d0, q0⟩ := Kd.R_slice O0.out; subst q0; clear T5 ho hb)
    | (go_at_call 19; (with_reducible refine (C7 _ _ _ (Kd.C_below (Kd.R_reads' OS5.out).2.2 T6.out) (Kd.R_reads' OS5.out).2.1).mono ?_); rintro e w7 ⟨v1, rfl, ho, hb⟩; have T7 := Aside0.mk (below_step T6.out hb); have O1 := Aside0.mk (Kd.R_lower ho T6.out.size); have O07 := Aside0.mk (Kd.R_below O0.out hb); obtain ⟨E1, d1, q1⟩ := Kd.R_slice O1.out; subst q1; clear T6 ho hb O0)
    | (go_at_call 19; (with_reducible refine (C8 _ _ _ (Kd.C_below (Kd.R_reads' OS5.out).2.2 T7.out) (Kd.R_reads' OS5.out).2.1).mono ?_); rintro e w8 ⟨v2, rfl, ho, hb⟩; have T8 := Aside0.mk (below_step T7.out hb); have O2 := Aside0.mk (Kd.R_lower ho T7.out.size); have O08 := Aside0.mk (Kd.R_below O07.out hb); have O18 := Aside0.mk (Kd.R_below O1.out hb); obtain ⟨E2, d2, q2⟩ := Kd.R_slice O2.out; subst q2; clear T7 ho hb O07 O1)
    | (go_at_call 21; (with_reducible refine (C9 _ _ _ (Kd.C_below (Kd.R_reads' OS5.out).2.2 T8.out) (Kd.R_reads' OS5.out).2.1).mono ?_); rintro e w9 ⟨v3, rfl, ho, hb⟩; have T9 := Aside0.mk (below_step T8.out hb); have O3 := Aside0.mk (Kd.R_lower ho T8.out.size); have O09 := Aside0.mk (Kd.R_below O08.out hb); have O19 := Aside0.mk (Kd.R_below O18.out hb); have O29 := Aside0.mk (Kd.R_below O2.out hb); obtain ⟨E3, d3, q3⟩ := Kd.R_slice O3.out; subst q3; clear T8 ho hb O08 O18 O2)
    | (go_at_call 23; (with_reducible refine (C10 _ _ _ _ _ (Kd.C_below (Kd.R_reads' OS5.out).2.2 T9.out) (Kd.R_reads' OS5.out).2.1 (Kd.C_below (Kd.R_reads' OB5.out).2.2 T9.out) (Kd.R_reads' OB5.out).2.1).mono ?_); rintro e w10 ⟨v4, rfl, ho, hb⟩; have T10 := Aside0.mk (below_step T9.out hb); have O4 := Aside0.mk (Kd.R_lower ho T9.out.size); have O0a := Aside0.mk (Kd.R_below O09.out hb); have O1a := Aside0.mk (Kd.R_below O19.out hb); have O2a := Aside0.mk (Kd.R_below O29.out hb); have O3a := Aside0.mk (Kd.R_below O3.out hb); obtain ⟨E4, d4, q4⟩ := Kd.R_slice O4.out; subst q4; clear T9 ho hb O09 O19 O29 O3)
    | go_in)
  have BK0 := Aside0.mk (heap_alloc_new w10 (Obj.cells #[.slice E0 r0.length d0, .slice E1 r1.length d1, .slice E2 r2.length d2, .slice E3 r3.length d3, .slice E4 r4.length d4] 22))
  have hba : Below w10.heap.size w10 (w10.alloc (Obj.cells #[.slice E0 r0.length d0, .slice E1 r1.length d1, .slice E2 r2.length d2, .slice E3 r3.length d3, .slice E4 r4.length d4] 22)) := (Below.refl _ _).alloc (Nat.le_refl _) _
  have T11 := Aside0.mk (below_step T10.out hba)
  obtain ⟨n0, n1, n2, n3, n4⟩ := HN.out
  have G0 := Aside0.mk (good_of_R (Kd.R_below O0a.out hba) (by omega))
  have G1 := Aside0.mk (good_of_R (Kd.R_below O1a.out hba) (by omega))
  have G2 := Aside0.mk (good_of_R (Kd.R_below O2a.out hba) (by omega))
  have G3 := Aside0.mk (good_of_R (Kd.R_below O3a.out hba) (by omega))
  have G4 := Aside0.mk (good_of_R (Kd.R_below O4.out hba) (by omega))
  clear hba T10 O0a O1a O2a O3a O4 n0 n1 n2 n3 n4
  generalize hgb : w10.heap.size = gl at *
  go_loopw [34] (fun v34 w' => ∃ i : Nat, v34 = .int .i64 i ∧ Aside0 (i ≤ 5) ∧ Aside0 (Below w5.heap.size w5 w') ∧ Aside0 (w'.heap[gl]? = some (.cells #[.slice E0 r0.length d0, .slice E1 r1.length d1, .slice E2 r2.length d2, .slice E3 r3.length d3, .slice E4 r4.length d4] 22 (0, 0))) ∧ Aside0 (Good w5.heap.size w' (.slice E0 r0.length d0) ∧ Good w5.heap.size w' (.slice E1 r1.length d1) ∧ Good w5.heap.size w' (.slice E2 r2.length d2) ∧ Good w5.heap.size w' (.slice E3 r3.length d3) ∧ Good w5.heap.size w' (.slice E4 r4.length d4))) (fun v34 _ => 5 - (intOf v34).toNat)
  case atStart => exact ⟨0, rfl, ⟨Nat.zero_le _⟩, T11, BK0, ⟨G0.out, G1.out, G2.out, G3.out, G4.out⟩⟩
  case round =>
    clear T11 BK0 G0 G1 G2 G3 G4
    obtain ⟨i, rfl, HI, HB, BK, HG⟩ := hrel
    by_cases c1 : (i : Int) < 5
    · have c1b : decide ((i : Int) < 5) = true := decide_eq_true c1
      have c1n : decide (i < 5) = true := decide_eq_true (by omega)
      have ch : ∃ A n c, wr.cell? ⟨gl, i, none⟩ = some (.slice A n c) ∧ Good w5.heap.size wr (.slice A n c) := by
        have hi : i < 5 := of_decide_eq_true c1n
        obtain ⟨g0, g1, g2, g3, g4⟩ := HG.out
        rcases (show i = 0 ∨ i = 1 ∨ i = 2 ∨ i = 3 ∨ i = 4 by omega) with rfl | rfl | rfl | rfl | rfl
        · exact ⟨_, _, _, (blk_cell BK.out 0).trans rfl, g0⟩
        · exact ⟨_, _, _, (blk_cell BK.out 1).trans rfl, g1⟩
        · exact ⟨_, _, _, (blk_cell BK.out 2).trans rfl, g2⟩
        · exact ⟨_, _, _, (blk_cell BK.out 3).trans rfl, g3⟩
        · exact ⟨_, _, _, (blk_cell BK.out 4).trans rfl, g4⟩
      obtain ⟨A, n, c, hx1, hgood⟩ := ch
      have HGd := Aside0.mk hgood
      have p1 : (0 ≤ (i : Int)) = True := eq_true (by omega)
      have q1 := eq_true c1
      have q2 := eq_true (of_decide_eq_true c1n)
      clear hgood c1
      go_wp2
      go_loopw [10] (fun v10 w' => ∃ j : Nat, v10 = .int .i64 j ∧ Aside0 (j ≤ n) ∧ Aside0 (Below w5.heap.size w5 w') ∧ Aside0 (w'.heap[gl]? = some (.cells #[.slice E0 r0.length d0, .slice E1 r1.length d1, .slice E2 r2.length d2, .slice E3 r3.length d3, .slice E4 r4.length d4] 22 (0, 0))) ∧ Aside0 (Good w5.heap.size w' (.slice E0 r0.length d0) ∧ Good w5.heap.size w' (.slice E1 r1.length d1) ∧ Good w5.heap.size w' (.slice E2 r2.length d2) ∧ Good w5.heap.size w' (.slice E3 r3.length d3) ∧ Good w5.heap.size w' (.slice E4 r4.length d4)) ∧ Aside0 (Good w5.heap.size w' (.slice A n c))) (fun v10 _ => n - (intOf v10).toNat)
      case atStart => exact ⟨0, rfl, ⟨Nat.zero_le _⟩, HB, BK, HG, HGd⟩
      case round =>
        clear HB BK HG HGd hx1
        obtain ⟨j, rfl, HJ, HB, BK, HG, HGd⟩ := hrel
        have HS : Aside0 (n ≤ 1000000) := by
          obtain ⟨A', n', c', he, hn6, _⟩ := HGd.out
          injection he with _ h2 _
          exact ⟨by omega⟩
        by_cases c2 : (j : Int) < (n : Int)
        · have c2b : decide ((j : Int) < (n : Int)) = true := decide_eq_true c2
          have c2n : decide (j < n) = true := decide_eq_true (by omega)
          obtain ⟨A', n', c', he, hn6, hgd⟩ := HGd.out
          injection he with h1 h2 h3
          subst h1 h2 h3
          rcases hgd with h | ⟨g, cells, rfl, hBg, hbk, hns, hnc⟩
          · omega
          have hj : j < cells.size := by omega
          obtain ⟨u0, hx2⟩ : ∃ u, wr.cell? ⟨g, j, none⟩ = some u := ⟨_, (blk_cell hbk j).trans (Array.getElem?_eq_getElem hj)⟩
          have hf2 := blk_frozen hbk j
          have HBG := Aside0.mk hBg
          have HBK := Aside0.mk hbk
          have p3 : (0 ≤ (j : Int)) = True := eq_true (by omega)
          have q3 := eq_true c2
          have q4 := eq_true (of_decide_eq_true c2n)
          have hwj : wrap64 ((j : Int) + 1) = ((j + 1 : Nat) : Int) := by rw [w64 (by omega) (by have := HS.out; omega)]; omega
          have HNS := Aside0.mk (And.intro hns hnc)
          clear hBg hbk hns hnc hn6 c2 hj HGd
          go_wp2_with (first | ((with_reducible refine gate_store (t := 3) (p := 48) rfl ?_); refine store_event (t := 3) (p := 48) (v := ?vo) (w1 := wr.setCell ⟨g, j, none⟩ (.int .i64 (wrap64 (-1 - (j : Int))))) ?hg ?ho ?hn ?hr ?_; (case ho => rfl); (case hg => rfl); (case hn => rfl); (case hr => first | (go_simp; done) | (go_simp; rfl)); intro w17 hw; have HW := Aside0.mk hw; clear hw) | go_in)
          have hj2 : j < n := of_decide_eq_true c2n
          go_roundw
          case measure => rw [hwj]; simp only [intOf, Int.toNat_natCast]; omega
          case rel =>
            refine ⟨j + 1, by rw [hwj], ⟨by omega⟩, ⟨by rw [HW.out]; exact below_set HB.out HBG.out⟩, ⟨by rw [HW.out]; exact blk_far BK.out (blk_ne BK.out HBK.out (by decide)) _⟩, ⟨by rw [HW.out]; exact ⟨good_kept HG.out.1 set_shape, good_kept HG.out.2.1 set_shape, good_kept HG.out.2.2.1 set_shape, good_kept HG.out.2.2.2.1 set_shape, good_kept HG.out.2.2.2.2 set_shape⟩⟩, ⟨?_⟩⟩
            rw [HW.out]
            exact good_kept ⟨_, _, _, rfl, HS.out, .inr ⟨g, cells, rfl, HBG.out, HBK.out, HNS.out.1, HNS.out.2⟩⟩ set_shape
        · have c2b : decide ((j : Int) < (n : Int)) = false := decide_eq_false c2
          have c2n : decide (j < n) = false := decide_eq_false (by omega)
          have hi5 : i < 5 := of_decide_eq_true c1n
          go_wp2
          go_roundw
          case measure => simp only [intOf]; omega
          case rel => exact ⟨i + 1, by rw [show ((i : Int) + 1) = ((i + 1 : Nat) : Int) by omega], ⟨by omega⟩, HB, BK, HG⟩
    · have c1b : decide ((i : Int) < 5) = false := decide_eq_false c1
      have c1n : decide (i < 5) = false := decide_eq_false (by omega)
      have hS5 := Aside0.mk (below_step S5.out HB.out)
      have hH := HH.out
      clear HG BK
      cases ok with
      | false =>
        obtain rfl : false = r := Option.some.inj hH
        go_wp2
        go_ret
        exact ⟨rfl, hS5.out⟩
      | true =>
        have C11 := fun A c A' c' w h1 h2 h3 h4 => abugidaref15_Same.calls k A c s A' c' s2 r w h1 h2 h3 h4 hH
        go_wp2_with (first | (go_at_call 12; (with_reducible refine (C11 _ _ _ _ _ (Kd.C_below (Kd.R_reads' OS5.out).2.2 HB.out) (Kd.R_reads' OS5.out).2.1 (Kd.C_below (Kd.R_reads' OT.out).2.2 HB.out) (Kd.R_reads' OT.out).2.1).mono ?_); rintro e w' ⟨rfl, ⟨nd, rfl⟩⟩) | go_in)
        go_ret
        exact ⟨rfl, by repeat (first | exact hS5.out | apply pw_below_drewN)⟩


def abugidalaw15_SetsOwn.f (k : Nat) (l0 : List Int) (l1 : List Int) : Option (Bool) := SetsOwn_f k l0 l1
theorem abugidalaw15_SetsOwn.calls (k : Nat) (A0 : Option Addr) (c0 : Nat) (l0 : List Int) (A1 : Option Addr) (c1 : Nat) (l1 : List Int) (r : Bool) (w : World) (hr0 : Kd.C (Kd.int .i64) w A0 l0.length l0) (hc0 : l0.length ≤ c0) (hr1 : Kd.C (Kd.int .i64) w A1 l1.length l1) (hc1 : l1.length ≤ c1) (h : abugidalaw15_SetsOwn.f k l0 l1 = some r) :
    Calls Try.prog 9 #[.slice A0 l0.length c0, .slice A1 l1.length c1] w fun e w' => e = .returned (.bool r) ∧ Below w.heap.size w w' := own_calls k A0 c0 l0 A1 c1 l1 r w hr0 hc0 hr1 hc1 h
def abugidalaw15_SetsOwn.Pure : Prop := ∀ (l0 : List Int) (l1 : List Int), l0.length ≤ maxLen → l0.length * 8 ≤ 140737488351232 → (∀ x ∈ l0, (Lit.int .i64 x).wf = true) → l1.length ≤ maxLen → l1.length * 8 ≤ 140737488351232 → (∀ x ∈ l1, (Lit.int .i64 x).wf = true) → ∃ k, abugidalaw15_SetsOwn.f k l0 l1 = some true
theorem abugidalaw15_SetsOwn.walk (P : abugidalaw15_SetsOwn.Pure) (a0 : Option Addr) (len0 cap0 : Nat) (z0 : List Int) (a1 : Option Addr) (len1 cap1 : Nat) (z1 : List Int) (w : World) (w0 : (a0 = none ∧ len0 = 0 ∧ cap0 = 0 ∧ z0 = []) ∨ ∃ x, a0 = some x ∧ len0 ≤ cap0 ∧ cap0 ≤ maxLen ∧ z0.length = cap0 ∧ (∀ i, i < z0.length → w.cell? (x.add i) = some (.int .i64 (z0.getD i 0))) ∧ ∀ n ∈ z0, (Lit.int .i64 n).wf = true) (y0 : len0 * 8 ≤ 140737488351232) (w1 : (a1 = none ∧ len1 = 0 ∧ cap1 = 0 ∧ z1 = []) ∨ ∃ x, a1 = some x ∧ len1 ≤ cap1 ∧ cap1 ≤ maxLen ∧ z1.length = cap1 ∧ (∀ i, i < z1.length → w.cell? (x.add i) = some (.int .i64 (z1.getD i 0))) ∧ ∀ n ∈ z1, (Lit.int .i64 n).wf = true) (y1 : len1 * 8 ≤ 140737488351232) :
    Calls Try.prog 9 #[.slice a0 len0 cap0, .slice a1 len1 cap1] w fun e w' => e = .returned (.bool true) ∧ Below w.heap.size w w' := by
  obtain ⟨l0, rfl, hr0, hm0, hw0, hc0⟩ := ReadsInt.ofRowC w0
  obtain ⟨l1, rfl, hr1, hm1, hw1, hc1⟩ := ReadsInt.ofRowC w1
  obtain ⟨k, h⟩ := P l0 l1 hm0 y0 hw0 hm1 y1 hw1
  refine (abugidalaw15_SetsOwn.calls k _ _ l0 _ _ l1 true w (Kd.C_of_reads (d := (0 : Int)) (h1 := fun _ => rfl) hr0) hc0 (Kd.C_of_reads (d := (0 : Int)) (h1 := fun _ => rfl) hr1) hc1 h).mono ?_
  rintro e w' ⟨rfl, hd⟩
  exact ⟨rfl, hd⟩

end Go.Proofs.Ytfjiamhgennmbaa.Q

/- order.directions. Printed by genDr.py. -/
import Derived.Test.YtacnckneiklgpaaVs
import Derived.BigRegionIn
import Derived.StillTailTactics
namespace Go.Proofs.Ytacnckneiklgpaa.Q
open Go.RowKit Go.Proofs.YtacnckneiklgpaaW.PrintWords Go.Proofs.YtacnckneiklgpaaW.PrintLast Go.Proofs.YtacnckneiklgpaaW.PrintMore
set_option linter.unusedSimpArgs false
set_option linter.unusedVariables false
attribute [local go_sem] Oper.semAt_some

def classP (c : Int) : Int := (chars_Class.f 40 c).getD 0
theorem classP_all : ∀ c : Fin 256, (chars_Class.f 40 (c.val : Int)).isSome = true := by decide +kernel
theorem classP_some {c : Int} (h0 : 0 ≤ c) (h1 : c ≤ 255) : chars_Class.f 40 c = some (classP c) := by
  obtain ⟨n, rfl⟩ := Int.eq_ofNat_of_zero_le h0
  have h := classP_all ⟨n, by omega⟩
  unfold classP
  obtain ⟨v, hv⟩ := Option.isSome_iff_exists.mp h
  dsimp only at hv
  rw [hv]
  rfl
def updL (b k : Int) : Int := if k = 1 ∨ k = 2 then k else b
/-- The last strong kind at each place. -/
def lastL : Int → List Int → List Int
  | _, [] => []
  | b, k :: r => updL b k :: lastL (updL b k) r
theorem lastL_length : ∀ (l : List Int) (b : Int), (lastL b l).length = l.length
  | [], _ => rfl
  | k :: r, b => by simp only [lastL, List.length_cons, lastL_length r]
def fillR (o : List Int) (a b : Nat) (d : Int) : List Int := o.take a ++ List.replicate (b - a) d ++ o.drop b
theorem fillR_length (o : List Int) (a b : Nat) (d : Int) (h1 : a ≤ b) (h2 : b ≤ o.length) : (fillR o a b d).length = o.length := by
  unfold fillR
  simp only [List.length_append, List.length_take, List.length_replicate, List.length_drop]
  omega
theorem fillR_self (o : List Int) (a : Nat) (d : Int) : fillR o a a d = o := by
  unfold fillR
  rw [Nat.sub_self, List.replicate_zero, List.append_nil, List.take_append_drop]
theorem fillR_step (o : List Int) (a i : Nat) (d : Int) (h1 : a ≤ i) (h2 : i < o.length) : (fillR o a i d).set i d = fillR o a (i + 1) d := by
  unfold fillR
  have hl : (o.take a ++ List.replicate (i - a) d).length = i := by simp only [List.length_append, List.length_take, List.length_replicate]; omega
  rw [List.set_append_right _ _ (by omega), hl, Nat.sub_self, List.drop_eq_getElem_cons h2, List.set_cons_zero, show i + 1 - a = (i - a) + 1 by omega, List.replicate_succ', List.append_assoc, List.append_assoc, List.append_assoc]
  rfl
def befD (b : Int) (o : List Int) (a : Nat) : Int := if 0 < a then o.getD (a - 1) 0 else b
def aftD (b : Int) (n : Nat) (o : List Int) (t : Nat) : Int := if t < n then o.getD t 0 else b
def dirP (b : Int) (n : Nat) (o : List Int) (p : Nat × Nat × Bool) : List Int :=
  if p.2.2 = true then fillR o p.1 p.2.1 (if befD b o p.1 = aftD b n o p.2.1 then befD b o p.1 else b) else o
/-- Ends of lines have the base. -/
def lineL (b : Int) : List Int → List Int → List Int
  | [], ds => ds
  | _ :: _, [] => []
  | c :: cs, d :: ds => (if classP c = 1 then b else d) :: lineL b cs ds
theorem lineL_length (b : Int) : ∀ cs ds, (lineL b cs ds).length = ds.length
  | [], ds => rfl
  | _ :: _, [] => rfl
  | c :: cs, d :: ds => by simp only [lineL, List.length_cons, lineL_length b cs ds]
theorem lineL_step (b : Int) : ∀ (k : Nat) (cs ds : List Int), k < cs.length → k < ds.length → lineL b (cs.take (k + 1)) ds = if classP (cs.getD k 0) = 1 then (lineL b (cs.take k) ds).set k b else lineL b (cs.take k) ds
  | _, [], ds, h, _ => absurd h (Nat.not_lt_zero _)
  | _, _ :: _, [], _, h => absurd h (Nat.not_lt_zero _)
  | 0, c :: cs, d :: ds, _, _ => by
    simp only [List.take_succ_cons, List.take_zero, lineL, List.getD_cons_zero, List.set_cons_zero]
    split <;> rfl
  | k + 1, c :: cs, d :: ds, h1, h2 => by
    have ih := lineL_step b k cs ds (by simpa using h1) (by simpa using h2)
    simp only [List.take_succ_cons, lineL, List.getD_cons_succ, List.set_cons_succ]
    rw [ih]
    by_cases h : classP (cs.getD k 0) = 1
    · rw [if_pos h, if_pos h]
    · rw [if_neg h, if_neg h]
def dirF (bs kinds : List Int) : List Int := lineL (baseL bs) bs ((pcs (fun k => k == 0) 0 kinds).foldl (dirP (baseL bs) kinds.length) (lastL (baseL bs) kinds))
theorem dirP_length (b : Int) (n : Nat) (o : List Int) (p : Nat × Nat × Bool) (h1 : p.1 < p.2.1) (h2 : p.2.1 ≤ o.length) : (dirP b n o p).length = o.length := by
  unfold dirP
  split
  · exact fillR_length _ _ _ _ (by omega) h2
  · rfl
theorem own_row_typed {w W : World} {L : List Res} {K : Nat → Obj → Prop} {α : Type} {d : Kd α} {e B : Nat} {v : Value} {xs : List α} (h : Own w W L K) (i : Nat) (hi : L[i]? = some (.row d e B v xs)) (k : Nat) (hk : v.ownBlock = some k) : ∃ cells, W.heap[k]? = some (.cells cells e (0, 0)) := by
  obtain ⟨_, _, F, h2⟩ := h
  exact Kd.R_typed (h2 i _ hi) k hk
theorem keepS_one (W : World) (g i : Nat) (u : Value) : KeepS (· ≠ g) W (W.setCell ⟨g, i, none⟩ u) :=
  ⟨by simp [World.setCell], fun k hk => Below.heap_setCell _ _ u k hk⟩
theorem set_at (pre : List Int) (k n m : Nat) (hk : pre.length = k) (hn : n = m + 1) {u : Int} : (pre ++ List.replicate n 0).set k u = (pre ++ [u]) ++ List.replicate m 0 := by
  subst hn
  rw [List.set_append_right _ _ (by omega), hk, Nat.sub_self, List.replicate_succ, List.set_cons_zero, List.append_assoc]
  rfl
set_option maxRecDepth 100000 in
set_option maxHeartbeats 8000000 in
theorem directions_calls (s : ByteArray) (A : Option Addr) (c : Nat) (l : List Int) (w : World) (hr : (Kd.int .i64).C w A l.length l) (hc : l.length ≤ c) (hl : l.length ≤ 1000000) (hs : s.size = l.length) :
    Calls Try.prog 31 #[.string s, .slice A l.length c] w fun e w' => ∃ v, e = .returned v ∧ Kd.R (Kd.int .i64) 3 w' w.heap.size (fun _ => True) v (dirF (bytesOf s) l) ∧ Below w.heap.size w w' := by
  have HR := Aside0.mk hr
  have HC := Aside0.mk hc
  have HL := Aside0.mk hl
  have hl9 : (l.length : Int) ≤ 1000000 := by omega
  have hl0 : (0 : Int) ≤ (l.length : Int) := by omega
  have HO := Own.start w
  obtain ⟨N, hN⟩ : ∃ N, l.length = N := ⟨_, rfl⟩
  obtain ⟨b, hb⟩ : ∃ b, baseL (bytesOf s) = b := ⟨_, rfl⟩
  rw [hN] at hl9 hl0 hs ⊢
  have HN := Aside0.mk hN
  have HB := Aside0.mk hb
  have HS := Aside0.mk hs
  have hs9 : s.size ≤ 9223372036854775807 := by omega
  clear hr hc hl hN hb hs
  refine (callsIn_wide (n := 6)).1 ?_
  refine callsIn_of_wp_marks Try.func31 rfl trivial ?_ rfl
  simp only [Try.ntmps31, List.size_toArray, List.length_cons, List.length_nil, Nat.reduceAdd, Nat.reduceSub, Array.replicate_succ, Array.replicate_zero, List.push_toArray, List.append_toArray, List.nil_append, List.cons_append]
  refine wpIn_wide.2 ?_
  go_wp2_with (first
    | (go_at_call 28; (with_reducible refine (base_calls s hs9 _).mono ?_); rintro e W1 ⟨rfl, hb1⟩; rw [HB.out]; have HO1 := HO.grow hb1; clear HO hb1)
    | ((with_reducible refine gate_dst (N := 5) rfl ?_); refine ev_box (N := 5) (cs := #[.int .i64 0]) (t := 3) HO1 rfl rfl ?hr ?_; (case hr => first | (go_simp; done) | (go_simp; rfl)); intro gb W2 HO2 hb2; clear HO1 hb2)
    | ((with_reducible refine gate_store (t := 3) (p := 5) rfl ?_); refine ev_store (cs' := #[.int .i64 b]) (.int .i64 b) 0 HO2 rfl rfl rfl rfl 0 rfl rfl sz3 (by simp [Value.oneCell', Value.cells]) (Nat.le_refl _) rfl ?_; intro W3 HO3; clear HO2)
    | ((with_reducible refine gate_dst (N := 22) rfl ?_); refine ev_make (Kd.int .i64) 3 (N := 22) HO3 rfl rfl 26 (.tmp 21) (.tmp 21) rfl (N : Int) rfl rfl Try.underlying26 (.int .i64 0) 8 hinfo3 rfl (Nat.succ_pos 0) (by decide) 0 rfl hl0 (by omega) ?_; rw [Int.toNat_natCast]; intro Ao co W4 HO4 hb4; clear HO3 hb4)
    | ((with_reducible refine gate_dst (N := 6) rfl ?_); refine ev_box (N := 6) (cs := #[.slice none 0 0]) (t := 26) HO4 rfl rfl ?hr ?_; (case hr => first | (go_simp; done) | (go_simp; rfl)); intro go W5 HO5 hb5; clear HO4 hb5)
    | ((with_reducible refine gate_store (t := 26) (p := 6) rfl ?_); refine ev_store (cs' := #[.slice Ao N co]) (.slice Ao N co) 2 HO5 rfl rfl rfl rfl 0 rfl rfl sz26 (by simp [Value.oneCell', Value.cells]) (Nat.le_refl _) rfl ?_; intro W6 HO6; clear HO5; have x0 := HO6.box_cell 0 rfl 0 rfl))
  clear x0
  go_loopw [7, 26] (fun v7 v26 w' => ∃ (k : Nat) (lst : Int) (pre : List Int), v26 = .int .i64 k ∧ v7 = .int .i64 lst ∧ Aside0 (k ≤ N) ∧ Aside0 (pre.length = k) ∧ Aside0 (pre ++ lastL lst (l.drop k) = lastL b l) ∧ Aside0 (Own w w' [.box gb 3 #[.int .i64 b], .row (Kd.int .i64) 3 w.heap.size (.slice Ao N co) (pre ++ List.replicate (N - k) 0), .box go 26 #[.slice Ao N co]])) (fun _ v26 _ => N - (intOf v26).toNat)
  case atStart => exact ⟨0, b, [], rfl, rfl, ⟨Nat.zero_le _⟩, ⟨rfl⟩, ⟨rfl⟩, ⟨HO6⟩⟩
  case round =>
    clear HO6
    obtain ⟨k, lst, pre, rfl, rfl, HK, HPL, HLL, HOO⟩ := hrel
    have HO := HOO.out
    clear HOO
    by_cases hlt : k < N
    case pos =>
      obtain ⟨ad, hA, z0⟩ := at_int HR.out k (by rw [HN.out]; exact hlt)
      subst hA
      replace z0 := pw_cell_below HO.below z0
      obtain ⟨g, hg⟩ : ∃ g, Ao = some ⟨g, 0, none⟩ := by
        obtain ⟨ad, hA, -⟩ := (HO.row_sl 1 rfl).2.2.2.2 (by rw [List.length_append, List.length_replicate]; have := HPL.out; omega)
        subst hA
        obtain ⟨g, rfl⟩ := HO.row_head 1 rfl
        exact ⟨g, rfl⟩
      subst hg
      obtain ⟨x1, f1⟩ := HO.int_cell 1 rfl k hlt
      have x0 := HO.box_cell 2 rfl 0 rfl
      have q1 : ((k : Int) < (N : Int)) = True := eq_true (by omega)
      have pk : (0 ≤ (k : Int)) = True := eq_true (by omega)
      have hkb : (k : Int) + 1 ≤ 1000001 := by omega
      have HKL := Aside0.mk hlt
      obtain ⟨kx, hkx⟩ : ∃ kx, l.getD k 0 = kx := ⟨_, rfl⟩
      rw [hkx] at z0
      have hdr : l.drop k = kx :: l.drop (k + 1) := by
        have hk2 : k < l.length := by rw [HN.out]; exact hlt
        rw [← hkx, List.drop_eq_getElem_cons hk2, List.getD_eq_getElem?_getD, List.getElem?_eq_getElem hk2]; rfl
      have HLL2 := Aside0.mk (show pre ++ updL lst kx :: lastL (updL lst kx) (l.drop (k + 1)) = lastL b l by have h := HLL.out; rw [hdr] at h; exact h)
      clear HLL hdr hkx
      have HLL := HLL2
      clear HLL2
      have HXP := Aside0.mk (rfl : pre ++ List.replicate (N - k) (0 : Int) = pre ++ List.replicate (N - k) 0)
      by_cases h1 : kx = 1
      · have hupd : updL lst kx = 1 := by rw [h1]; rfl
        have e1 : (kx == 1) = true := by rw [h1]; rfl
        have HUP := Aside0.mk hupd
        subst h1
        clear hlt
        go_wp2
        have HO2 := HO.intput 1 rfl k 1
        go_roundw
        case rel => exact ⟨k + 1, 1, pre ++ [1], by go_num, rfl, ⟨HKL.out⟩, ⟨by rw [List.length_append, HPL.out]; rfl⟩, ⟨by have h := HLL.out; rw [hupd] at h; rw [← h, List.append_assoc]; rfl⟩, ⟨by have h := HO2; rw [HXP.out, set_at _ _ _ _ HPL.out (show N - k = (N - (k + 1)) + 1 by have := HKL.out; omega)] at h; exact h⟩⟩
        case measure => have := HKL.out; simp [intOf]; omega
      · by_cases h2 : kx = 2
        · have hupd : updL lst kx = 2 := by rw [h2]; rfl
          have e1 : (kx == 1) = false := beq_eq_false_iff_ne.mpr h1
          subst h2
          clear h1
          clear hlt
          go_wp2
          have HO2 := HO.intput 1 rfl k 2
          go_roundw
          case rel => exact ⟨k + 1, 2, pre ++ [2], by go_num, rfl, ⟨HKL.out⟩, ⟨by rw [List.length_append, HPL.out]; rfl⟩, ⟨by have h := HLL.out; rw [hupd] at h; rw [← h, List.append_assoc]; rfl⟩, ⟨by have h := HO2; rw [HXP.out, set_at _ _ _ _ HPL.out (show N - k = (N - (k + 1)) + 1 by have := HKL.out; omega)] at h; exact h⟩⟩
          case measure => have := HKL.out; simp [intOf]; omega
        · have hupd : updL lst kx = lst := if_neg (by omega)
          have e1 : (kx == 1) = false := beq_eq_false_iff_ne.mpr h1
          have e2 : (kx == 2) = false := beq_eq_false_iff_ne.mpr h2
          clear h1 h2
          clear hlt
          go_wp2
          have HO2 := HO.intput 1 rfl k lst
          go_roundw
          case rel => exact ⟨k + 1, lst, pre ++ [lst], by go_num, rfl, ⟨HKL.out⟩, ⟨by rw [List.length_append, HPL.out]; rfl⟩, ⟨by have h := HLL.out; rw [hupd] at h; rw [← h, List.append_assoc]; rfl⟩, ⟨by have h := HO2; rw [HXP.out, set_at _ _ _ _ HPL.out (show N - k = (N - (k + 1)) + 1 by have := HKL.out; omega)] at h; exact h⟩⟩
          case measure => have := HKL.out; simp [intOf]; omega
    have hkN : k = N := by have := HK.out; omega
    have q1 : ¬ ((k : Int) < (N : Int)) := by omega
    have HXE := Aside0.mk (show pre ++ List.replicate (N - k) 0 = lastL b l by
      have h := HLL.out
      rw [hkN, List.drop_of_length_le (by rw [HN.out]; exact Nat.le_refl _)] at h
      rw [hkN, Nat.sub_self, ← h]
      rfl)
    rw [HXE.out] at HO
    clear hlt hkN
    go_wp2_with (first
      | (go_at_call 37; (with_reducible refine (piecesB_calls A N c 45 _ _).mono ?_); rintro e W7 ⟨rfl, hw7⟩; have HW7 := Aside0.mk hw7; clear hw7))
    have HO6 := (HO.alloc (.cells #[.slice A N c] 26)).alloc (.cells #[.func (.func 45) #[] #[]] 56)
    have hw5 := HW7.out
    have hg1 := World.alloc_heap_new wr (.cells #[.slice A N c] 26)
    have hg1 := (Below.heap_alloc _ (.cells #[.func (.func 45) #[] #[]] 56) _ (blk_lt hg1)).trans hg1
    have hg2 := World.alloc_heap_new (wr.alloc (.cells #[.slice A N c] 26)) (.cells #[.func (.func 45) #[] #[]] 56)
    rw [World.size_alloc] at hg2
    rw [← hw5] at HO6 hg1 hg2
    have hsz : W7.heap.size = wr.heap.size + 2 := by rw [hw5]; simp
    have hle5 := HO6.le
    obtain ⟨S, hSd⟩ : ∃ S : Nat → Prop, S = fun k => k < W7.heap.size ∧ (Value.slice Ao N co).ownBlock ≠ some k := ⟨_, rfl⟩
    have hSS : ∀ k, S k ↔ k < W7.heap.size ∧ (Value.slice Ao N co).ownBlock ≠ some k := fun k => by rw [hSd]
    have hS : ∀ k, S k → k < W7.heap.size := fun k h => ((hSS k).mp h).1
    have s1 : S wr.heap.size := (hSS _).mpr ⟨by omega, fun h => by have := (HO.row_block 1 rfl _ h).2; omega⟩
    have s2 : S (wr.heap.size + 1) := (hSS _).mpr ⟨by omega, fun h => by have := (HO.row_block 1 rfl _ h).2; omega⟩
    have hE : ∀ W, KeepS S W7 W → W.cell? ⟨wr.heap.size, 0, none⟩ = some (.slice A l.length c) ∧ W.cell? ⟨wr.heap.size + 1, 0, none⟩ = some (.func (.func 45) #[] #[]) ∧ (Kd.int .i64).C W A l.length l ∧ ∀ x ∈ l, Calls Try.prog 45 (#[.int .i64 x] ++ #[]) W fun e w' => e = .returned (Value.bool (x == 0)) ∧ Below W.heap.size W w' := fun W hk => by
      refine ⟨by rw [HN.out]; exact (blk_cell ((hk.2 _ s1).trans hg1) 0).trans rfl, (blk_cell ((hk.2 _ s2).trans hg2) 0).trans rfl, intC_keep (HO6.old HR.out) (fun ad hn hA => ?_), fun x hx => ?_⟩
      · subst hA
        have hb := Kd.C_lt HR.out hn (Nat.succ_pos 0)
        exact hk.2 _ ((hSS _).mpr ⟨by omega, fun h => by have := (HO6.row_block 1 rfl _ h).1; omega⟩)
      · exact (order_directions_1.calls x (x == 0) W rfl).mono (fun e w' h => ⟨h.1, h.2.below⟩)
    have hst := piecesB_stops 5 wr.heap.size (wr.heap.size + 1) 45 #[] A c l (fun k => k == 0) S W7 hS (enters_ (P := Try.prog) Try.func45 (by kernel_rfl) rfl) hE
    have HLE5 := Aside0.mk hle5
    have HSS := Aside0.mk hSS
    have HO7 := HO6
    clear hw5 hg1 hg2 hsz s1 s2 hE HO HO6 hle5 hSd hSS HW7
    refine (wpIn_wide (n := 6)).1 ?_
    refine wpIn_rangeFunc_ownH rfl (by decide) (gf := 50) (lb := #[.pointer (some ⟨wr.heap.size, 0, none⟩), .pointer (some ⟨wr.heap.size + 1, 0, none⟩)]) rfl trivial (enters_ (P := Try.prog) Try.func50 (by kernel_rfl) rfl) hst (fun h k => KeepS.trans h k) (fun W l o o' hl ho _ _ => keepS_b hS W l o o' hl ho) (Below.refl _ _) (fun _ => rfl)
      (fun pre W => W7.heap.size ≤ W.heap.size ∧ Own w W [.box gb 3 #[.int .i64 b], .row (Kd.int .i64) 3 w.heap.size (.slice Ao N co) ((pre.map (·.1)).foldl (dirP b N) (lastL b l)), .box go 26 #[.slice Ao N co]])
      (fun cd pre W => False)
      ?hI ?hIx ⟨Nat.le_refl _, HO7⟩
      (fun x a' W => ∃ g9 : Nat, a' = { tmps := #[.string s, .slice A N c, undef, undef, .slice none 0 0, .pointer (some ⟨gb, 0, none⟩), .pointer (some ⟨go, 0, none⟩), .int .i64 lst, u8, u9, .pointer (some ⟨g9, 0, none⟩), .bool x.1.2.2, undef, undef, undef, undef, undef, undef, .string s, .int .i64 b, .slice A N c, .int .i64 N, .slice Ao N co, .int .i64 b, .slice A N c, .int .i64 N, .int .i64 k, .bool false, u28, u29, u30, u31, u32, u33, u34, u35, u36, u37, u38, u39, u40, u41, u42, .slice A N c, .func (.func 50) #[] #[.pointer (some ⟨wr.heap.size, 0, none⟩), .pointer (some ⟨wr.heap.size + 1, 0, none⟩)], .agg #[.int .i64 x.1.1, .int .i64 x.1.2.1], .bool x.1.2.2, undef, undef, undef, undef, undef, undef, undef, undef, undef, undef, undef, undef, undef, undef, undef, undef, undef, undef, undef, undef, undef, undef, undef, undef, undef, undef, undef, undef, undef, undef, undef, undef, undef, undef, undef, undef, undef, undef, undef, undef, undef, undef, undef, undef, undef, undef, undef, undef, undef, undef, undef, undef, undef, undef, undef, undef, undef, undef], defers := [] } ∧ W.heap[g9]? = some (.cells #[.int .i64 x.1.1, .int .i64 x.1.2.1] 51 (0, 0)))
      ?hAx ?assign ?body ?done ?stop
    case hI =>
      rintro pre A' B' row ⟨h1, h2⟩ hg hr
      exact ⟨Nat.le_trans h1 hg.size, h2.other hg (fun r e => ⟨by have := (hr r e).1; have := HLE5.out; omega, fun o ho => ho, (hr r e).2⟩)⟩
    case hIx =>
      rintro cd pre A' B' row h1 hg hr
      exact h1
    case hAx =>
      rintro x a' _ A' B' row ⟨g9, h1, h2⟩ hg hr
      exact ⟨g9, h1, (hg.block g9 (blk_lt h2) (fun e => by obtain ⟨o, ho, hc⟩ := (hr g9 e.symm).2; rw [h2] at ho; cases ho; cases hc)).trans h2⟩
    case assign =>
      rintro lp pre x W K2 ⟨hi1, hi2⟩ hK2
      unfold encPB
      gi_wp2
      exact hK2 _ _ ((KeepsOthers.alloc _ _).from _) ⟨(below_alloc (Below.refl W.heap.size W) _).size, fun k hk => (below_alloc (Below.refl W.heap.size W) _).block k (Nat.lt_of_lt_of_le (hS k hk) hi1)⟩ ⟨by rw [World.size_alloc]; omega, hi2.alloc _⟩ ⟨W.heap.size, rfl, World.alloc_heap_new W _⟩
    case body =>
      rintro lp pre x a' W hl hrr ⟨hsW, HOb⟩ ⟨g9, rfl, hg9⟩ hlt
      have hxb := pcs_mem _ _ _ x.1 x.2
      rw [HN.out, Nat.zero_add] at hxb
      obtain ⟨o1, ho1⟩ : ∃ o1, (pre.map (·.1)).foldl (dirP b N) (lastL b l) = o1 := ⟨_, rfl⟩
      rw [ho1] at HOb
      have hfold : ((pre ++ [x]).map (·.1)).foldl (dirP b N) (lastL b l) = dirP b N o1 x.1 := by rw [List.map_append, List.foldl_append, ho1]; rfl
      cases hx2 : x.1.2.2 with
      | false =>
        have HF := Aside0.mk (show ((pre ++ [x]).map (·.1)).foldl (dirP b N) (lastL b l) = o1 by rw [hfold, dirP, hx2]; rfl)
        clear hfold
        gi_wp2
        exact ⟨KeepsFrom.refl _ _, KeepS.refl _ _, hsW, by rw [HF.out]; exact HOb⟩
      | true =>
        have HF := Aside0.mk (show ((pre ++ [x]).map (·.1)).foldl (dirP b N) (lastL b l) = fillR o1 x.1.1 x.1.2.1 (if befD b o1 x.1.1 = aftD b N o1 x.1.2.1 then befD b o1 x.1.1 else b) by rw [hfold, dirP, hx2]; rfl)
        obtain ⟨g, hg⟩ : ∃ g, Ao = some ⟨g, 0, none⟩ := by
          obtain ⟨ad, hA, -⟩ := (HOb.row_sl 1 rfl).2.2.2.2 (by have := (HOb.row_sl 1 rfl).1; omega)
          subst hA
          obtain ⟨g, rfl⟩ := HOb.row_head 1 rfl
          exact ⟨g, rfl⟩
        subst hg
        have HO1L := Aside0.mk (HOb.row_sl 1 rfl).1
        have HSW := Aside0.mk hsW
        obtain ⟨cs0, hty⟩ := own_row_typed HOb 1 rfl g (by simp [Value.ownBlock])
        have HG9 := Aside0.mk (show g < W7.heap.size ∧ (∀ k, S k → k ≠ g) ∧ g9 ≠ g from ⟨(HO7.row_block 1 rfl g (by simp [Value.ownBlock])).2, fun k hk => fun e => ((HSS.out k).mp hk).2 (by rw [e]; simp [Value.ownBlock]), fun e => by
          rw [e, hty] at hg9
          injection hg9 with hg9
          injection hg9 with _ h3 _
          cases h3⟩)
        have b0 := HOb.box_cell 0 rfl 0 rfl
        have b2 := HOb.box_cell 2 rfl 0 rfl
        obtain ⟨p0, hp0⟩ : ∃ p0, x.1.1 = p0 := ⟨_, rfl⟩
        obtain ⟨p1, hp1⟩ : ∃ p1, x.1.2.1 = p1 := ⟨_, rfl⟩
        rw [hp0] at hg9 hxb HF
        rw [hp1] at hg9 hxb HF
        have HH9 := Aside0.mk hg9
        have v1 : W.cell? ⟨g9, 0, none⟩ = some (.int .i64 p0) := (blk_cell hg9 0).trans rfl
        have v2 : W.cell? ⟨g9, 1, none⟩ = some (.int .i64 p1) := (blk_cell hg9 1).trans rfl
        have HXB := Aside0.mk hxb
        have HOB := Aside0.mk HOb
        clear hfold hxb hp0 hp1 hg9 hsW HOb hty
        by_cases hf : 0 < p0
        · obtain ⟨pm, rfl⟩ : ∃ pm, p0 = pm + 1 := ⟨p0 - 1, by omega⟩
          obtain ⟨bv, hbv⟩ : ∃ bv, o1.getD pm 0 = bv := ⟨_, rfl⟩
          have HBV := Aside0.mk (show befD b o1 (pm + 1) = bv by rw [befD, if_pos hf, Nat.add_sub_cancel, hbv])
          obtain ⟨xf, -⟩ := HOB.out.int_cell 1 rfl pm (by have := HXB.out; omega)
          rw [hbv] at xf
          have f1 : (((pm + 1 : Nat) : Int) - 1) = (pm : Int) := by omega
          have f2 : ((pm : Int) < (N : Int)) = True := eq_true (by have := HXB.out; omega)
          have f3 : (0 ≤ (pm : Int)) = True := eq_true (by omega)
          have f4 : ((pm : Int) + 1 - 1) = (pm : Int) := by omega
          have f5 : (pm : Int) + 1 ≤ 1000000 := by have := HXB.out; omega
          clear hf hbv
          by_cases ht : p1 < N
          · obtain ⟨av, hav⟩ : ∃ av, o1.getD p1 0 = av := ⟨_, rfl⟩
            have HAV := Aside0.mk (show aftD b N o1 p1 = av by rw [aftD, if_pos ht, hav])
            obtain ⟨xt, -⟩ := HOB.out.int_cell 1 rfl p1 ht
            rw [hav] at xt
            have t1 : ((p1 : Int) < (N : Int)) = True := eq_true (by omega)
            have t2 : (p1 < N) = True := eq_true ht
            clear ht hav
            by_cases he : bv = av
            · have ee : (bv == av) = true := beq_iff_eq.mpr he
              have HDV := Aside0.mk (show (if befD b o1 (pm + 1) = aftD b N o1 p1 then befD b o1 (pm + 1) else b) = bv by rw [HBV.out, HAV.out, if_pos he])
              clear he
              gi_wp2
              refine round_still_tail 3 (by rfl) (by rintro ⟨_, _, h⟩; exact h) (by kernel_rfl) (by kernel_rfl) ?_
              simp only [List.take_succ_cons, List.take_zero, List.drop_succ_cons, List.drop_zero]
              repeat still_step
              try refine wpStill_nil ?_
              change wpList _ _ _ _ _ W.drew
              go_wp2
              gi_wp2
              gi_loopw [15] (fun v15 w' => ∃ (i : Nat), v15 = .int .i64 i ∧ Aside0 ((pm + 1) ≤ i ∧ i ≤ p1) ∧ Aside0 (Own w w' [.box gb 3 #[.int .i64 b], .row (Kd.int .i64) 3 w.heap.size (.slice (some ⟨g, 0, none⟩) N co) (fillR o1 (pm + 1) i bv), .box go 26 #[.slice (some ⟨g, 0, none⟩) N co]] (fun k o => W.heap[k]? = some o ∧ o.isCells = false)) ∧ Aside0 (KeepS (· ≠ g) W w')) (fun v15 _ => p1 - (intOf v15).toNat)
              case atStart => exact ⟨(pm + 1), rfl, ⟨Nat.le_refl _, by have := HXB.out; omega⟩, ⟨by rw [fillR_self]; exact (HOB.out.keep (fun _ _ h => h)).drew⟩, ⟨⟨Nat.le_refl _, fun _ _ => rfl⟩⟩⟩
              case round =>
                obtain ⟨i, rfl, HI, HOO, HKS⟩ := hrel
                have HO := HOO.out
                clear HOO
                have v2 : wr.cell? ⟨g9, 1, none⟩ = some (.int .i64 (p1 : Int)) := (blk_cell ((HKS.out.2 g9 HG9.out.2.2).trans HH9.out) 1).trans rfl
                by_cases hlt2 : i < p1
                case pos =>
                  obtain ⟨y1, f1⟩ := HO.int_cell 1 rfl i (by have := HXB.out; omega)
                  have y0 := HO.box_cell 2 rfl 0 rfl
                  have q1 : ((i : Int) < (p1 : Int)) = True := eq_true (by omega)
                  have q2 : ((i : Int) < (N : Int)) = True := eq_true (by have := HXB.out; omega)
                  have q3 : (i < N) = True := eq_true (by have := HXB.out; omega)
                  have pi : (0 ≤ (i : Int)) = True := eq_true (by omega)
                  have hib : (i : Int) + 1 ≤ 1000001 := by have := HXB.out; omega
                  have HIL := Aside0.mk hlt2
                  clear hlt2
                  gi_wp2
                  have HO2 := HO.intput 1 rfl i bv
                  have HKT := Aside0.mk (HKS.out.trans (keepS_one wr g i (.int .i64 bv)))
                  go_roundw
                  case rel => exact ⟨i + 1, by go_num, ⟨by have := HI.out; omega, HIL.out⟩, ⟨by rw [← fillR_step o1 (pm + 1) i bv HI.out.1 (by have := HO1L.out; have := HXB.out; have := HIL.out; omega)]; exact HO2⟩, HKT⟩
                  case measure => have := HIL.out; simp [intOf]; omega
                have hie : i = p1 := by have := HI.out; omega
                have q1 : ¬ ((i : Int) < (p1 : Int)) := by omega
                rw [hie] at HO
                clear hlt2 hie
                gi_wp2
                have HO4 := HO.keep (K' := fun _ _ => False) (fun _ _ h => h.elim)
                exact ⟨⟨HKS.out.1, fun j o hj h1 h2 => (HKS.out.2 j (by have := HG9.out.1; omega)).trans h1⟩, ⟨HKS.out.1, fun k hk => HKS.out.2 k (HG9.out.2.1 k hk)⟩, Nat.le_trans HSW.out HKS.out.1, by rw [HF.out, HDV.out]; exact HO4⟩
            · have ee : (bv == av) = false := beq_eq_false_iff_ne.mpr he
              have HDV := Aside0.mk (show (if befD b o1 (pm + 1) = aftD b N o1 p1 then befD b o1 (pm + 1) else b) = b by rw [HBV.out, HAV.out, if_neg he])
              clear he
              gi_wp2
              refine round_still_tail 3 (by rfl) (by rintro ⟨_, _, h⟩; exact h) (by kernel_rfl) (by kernel_rfl) ?_
              simp only [List.take_succ_cons, List.take_zero, List.drop_succ_cons, List.drop_zero]
              repeat still_step
              try refine wpStill_nil ?_
              change wpList _ _ _ _ _ W.drew
              go_wp2
              gi_wp2
              gi_loopw [15] (fun v15 w' => ∃ (i : Nat), v15 = .int .i64 i ∧ Aside0 ((pm + 1) ≤ i ∧ i ≤ p1) ∧ Aside0 (Own w w' [.box gb 3 #[.int .i64 b], .row (Kd.int .i64) 3 w.heap.size (.slice (some ⟨g, 0, none⟩) N co) (fillR o1 (pm + 1) i b), .box go 26 #[.slice (some ⟨g, 0, none⟩) N co]] (fun k o => W.heap[k]? = some o ∧ o.isCells = false)) ∧ Aside0 (KeepS (· ≠ g) W w')) (fun v15 _ => p1 - (intOf v15).toNat)
              case atStart => exact ⟨(pm + 1), rfl, ⟨Nat.le_refl _, by have := HXB.out; omega⟩, ⟨by rw [fillR_self]; exact (HOB.out.keep (fun _ _ h => h)).drew⟩, ⟨⟨Nat.le_refl _, fun _ _ => rfl⟩⟩⟩
              case round =>
                obtain ⟨i, rfl, HI, HOO, HKS⟩ := hrel
                have HO := HOO.out
                clear HOO
                have v2 : wr.cell? ⟨g9, 1, none⟩ = some (.int .i64 (p1 : Int)) := (blk_cell ((HKS.out.2 g9 HG9.out.2.2).trans HH9.out) 1).trans rfl
                by_cases hlt2 : i < p1
                case pos =>
                  obtain ⟨y1, f1⟩ := HO.int_cell 1 rfl i (by have := HXB.out; omega)
                  have y0 := HO.box_cell 2 rfl 0 rfl
                  have q1 : ((i : Int) < (p1 : Int)) = True := eq_true (by omega)
                  have q2 : ((i : Int) < (N : Int)) = True := eq_true (by have := HXB.out; omega)
                  have q3 : (i < N) = True := eq_true (by have := HXB.out; omega)
                  have pi : (0 ≤ (i : Int)) = True := eq_true (by omega)
                  have hib : (i : Int) + 1 ≤ 1000001 := by have := HXB.out; omega
                  have HIL := Aside0.mk hlt2
                  clear hlt2
                  gi_wp2
                  have HO2 := HO.intput 1 rfl i b
                  have HKT := Aside0.mk (HKS.out.trans (keepS_one wr g i (.int .i64 b)))
                  go_roundw
                  case rel => exact ⟨i + 1, by go_num, ⟨by have := HI.out; omega, HIL.out⟩, ⟨by rw [← fillR_step o1 (pm + 1) i b HI.out.1 (by have := HO1L.out; have := HXB.out; have := HIL.out; omega)]; exact HO2⟩, HKT⟩
                  case measure => have := HIL.out; simp [intOf]; omega
                have hie : i = p1 := by have := HI.out; omega
                have q1 : ¬ ((i : Int) < (p1 : Int)) := by omega
                rw [hie] at HO
                clear hlt2 hie
                gi_wp2
                have HO4 := HO.keep (K' := fun _ _ => False) (fun _ _ h => h.elim)
                exact ⟨⟨HKS.out.1, fun j o hj h1 h2 => (HKS.out.2 j (by have := HG9.out.1; omega)).trans h1⟩, ⟨HKS.out.1, fun k hk => HKS.out.2 k (HG9.out.2.1 k hk)⟩, Nat.le_trans HSW.out HKS.out.1, by rw [HF.out, HDV.out]; exact HO4⟩
          · obtain ⟨av, hav⟩ : ∃ av, b = av := ⟨_, rfl⟩
            have HAV := Aside0.mk (show aftD b N o1 p1 = av by rw [aftD, if_neg ht, hav])
            have t1 : ((p1 : Int) < (N : Int)) = False := eq_false (by omega)
            have t2 : (p1 < N) = False := eq_false ht
            clear ht
            subst hav
            by_cases he : bv = b
            · have ee : (bv == b) = true := beq_iff_eq.mpr he
              have HDV := Aside0.mk (show (if befD b o1 (pm + 1) = aftD b N o1 p1 then befD b o1 (pm + 1) else b) = bv by rw [HBV.out, HAV.out, if_pos he])
              clear he
              gi_wp2
              refine round_still_tail 3 (by rfl) (by rintro ⟨_, _, h⟩; exact h) (by kernel_rfl) (by kernel_rfl) ?_
              simp only [List.take_succ_cons, List.take_zero, List.drop_succ_cons, List.drop_zero]
              repeat still_step
              try refine wpStill_nil ?_
              change wpList _ _ _ _ _ W.drew
              go_wp2
              gi_wp2
              gi_loopw [15] (fun v15 w' => ∃ (i : Nat), v15 = .int .i64 i ∧ Aside0 ((pm + 1) ≤ i ∧ i ≤ p1) ∧ Aside0 (Own w w' [.box gb 3 #[.int .i64 b], .row (Kd.int .i64) 3 w.heap.size (.slice (some ⟨g, 0, none⟩) N co) (fillR o1 (pm + 1) i bv), .box go 26 #[.slice (some ⟨g, 0, none⟩) N co]] (fun k o => W.heap[k]? = some o ∧ o.isCells = false)) ∧ Aside0 (KeepS (· ≠ g) W w')) (fun v15 _ => p1 - (intOf v15).toNat)
              case atStart => exact ⟨(pm + 1), rfl, ⟨Nat.le_refl _, by have := HXB.out; omega⟩, ⟨by rw [fillR_self]; exact (HOB.out.keep (fun _ _ h => h)).drew⟩, ⟨⟨Nat.le_refl _, fun _ _ => rfl⟩⟩⟩
              case round =>
                obtain ⟨i, rfl, HI, HOO, HKS⟩ := hrel
                have HO := HOO.out
                clear HOO
                have v2 : wr.cell? ⟨g9, 1, none⟩ = some (.int .i64 (p1 : Int)) := (blk_cell ((HKS.out.2 g9 HG9.out.2.2).trans HH9.out) 1).trans rfl
                by_cases hlt2 : i < p1
                case pos =>
                  obtain ⟨y1, f1⟩ := HO.int_cell 1 rfl i (by have := HXB.out; omega)
                  have y0 := HO.box_cell 2 rfl 0 rfl
                  have q1 : ((i : Int) < (p1 : Int)) = True := eq_true (by omega)
                  have q2 : ((i : Int) < (N : Int)) = True := eq_true (by have := HXB.out; omega)
                  have q3 : (i < N) = True := eq_true (by have := HXB.out; omega)
                  have pi : (0 ≤ (i : Int)) = True := eq_true (by omega)
                  have hib : (i : Int) + 1 ≤ 1000001 := by have := HXB.out; omega
                  have HIL := Aside0.mk hlt2
                  clear hlt2
                  gi_wp2
                  have HO2 := HO.intput 1 rfl i bv
                  have HKT := Aside0.mk (HKS.out.trans (keepS_one wr g i (.int .i64 bv)))
                  go_roundw
                  case rel => exact ⟨i + 1, by go_num, ⟨by have := HI.out; omega, HIL.out⟩, ⟨by rw [← fillR_step o1 (pm + 1) i bv HI.out.1 (by have := HO1L.out; have := HXB.out; have := HIL.out; omega)]; exact HO2⟩, HKT⟩
                  case measure => have := HIL.out; simp [intOf]; omega
                have hie : i = p1 := by have := HI.out; omega
                have q1 : ¬ ((i : Int) < (p1 : Int)) := by omega
                rw [hie] at HO
                clear hlt2 hie
                gi_wp2
                have HO4 := HO.keep (K' := fun _ _ => False) (fun _ _ h => h.elim)
                exact ⟨⟨HKS.out.1, fun j o hj h1 h2 => (HKS.out.2 j (by have := HG9.out.1; omega)).trans h1⟩, ⟨HKS.out.1, fun k hk => HKS.out.2 k (HG9.out.2.1 k hk)⟩, Nat.le_trans HSW.out HKS.out.1, by rw [HF.out, HDV.out]; exact HO4⟩
            · have ee : (bv == b) = false := beq_eq_false_iff_ne.mpr he
              have HDV := Aside0.mk (show (if befD b o1 (pm + 1) = aftD b N o1 p1 then befD b o1 (pm + 1) else b) = b by rw [HBV.out, HAV.out, if_neg he])
              clear he
              gi_wp2
              refine round_still_tail 3 (by rfl) (by rintro ⟨_, _, h⟩; exact h) (by kernel_rfl) (by kernel_rfl) ?_
              simp only [List.take_succ_cons, List.take_zero, List.drop_succ_cons, List.drop_zero]
              repeat still_step
              try refine wpStill_nil ?_
              change wpList _ _ _ _ _ W.drew
              go_wp2
              gi_wp2
              gi_loopw [15] (fun v15 w' => ∃ (i : Nat), v15 = .int .i64 i ∧ Aside0 ((pm + 1) ≤ i ∧ i ≤ p1) ∧ Aside0 (Own w w' [.box gb 3 #[.int .i64 b], .row (Kd.int .i64) 3 w.heap.size (.slice (some ⟨g, 0, none⟩) N co) (fillR o1 (pm + 1) i b), .box go 26 #[.slice (some ⟨g, 0, none⟩) N co]] (fun k o => W.heap[k]? = some o ∧ o.isCells = false)) ∧ Aside0 (KeepS (· ≠ g) W w')) (fun v15 _ => p1 - (intOf v15).toNat)
              case atStart => exact ⟨(pm + 1), rfl, ⟨Nat.le_refl _, by have := HXB.out; omega⟩, ⟨by rw [fillR_self]; exact (HOB.out.keep (fun _ _ h => h)).drew⟩, ⟨⟨Nat.le_refl _, fun _ _ => rfl⟩⟩⟩
              case round =>
                obtain ⟨i, rfl, HI, HOO, HKS⟩ := hrel
                have HO := HOO.out
                clear HOO
                have v2 : wr.cell? ⟨g9, 1, none⟩ = some (.int .i64 (p1 : Int)) := (blk_cell ((HKS.out.2 g9 HG9.out.2.2).trans HH9.out) 1).trans rfl
                by_cases hlt2 : i < p1
                case pos =>
                  obtain ⟨y1, f1⟩ := HO.int_cell 1 rfl i (by have := HXB.out; omega)
                  have y0 := HO.box_cell 2 rfl 0 rfl
                  have q1 : ((i : Int) < (p1 : Int)) = True := eq_true (by omega)
                  have q2 : ((i : Int) < (N : Int)) = True := eq_true (by have := HXB.out; omega)
                  have q3 : (i < N) = True := eq_true (by have := HXB.out; omega)
                  have pi : (0 ≤ (i : Int)) = True := eq_true (by omega)
                  have hib : (i : Int) + 1 ≤ 1000001 := by have := HXB.out; omega
                  have HIL := Aside0.mk hlt2
                  clear hlt2
                  gi_wp2
                  have HO2 := HO.intput 1 rfl i b
                  have HKT := Aside0.mk (HKS.out.trans (keepS_one wr g i (.int .i64 b)))
                  go_roundw
                  case rel => exact ⟨i + 1, by go_num, ⟨by have := HI.out; omega, HIL.out⟩, ⟨by rw [← fillR_step o1 (pm + 1) i b HI.out.1 (by have := HO1L.out; have := HXB.out; have := HIL.out; omega)]; exact HO2⟩, HKT⟩
                  case measure => have := HIL.out; simp [intOf]; omega
                have hie : i = p1 := by have := HI.out; omega
                have q1 : ¬ ((i : Int) < (p1 : Int)) := by omega
                rw [hie] at HO
                clear hlt2 hie
                gi_wp2
                have HO4 := HO.keep (K' := fun _ _ => False) (fun _ _ h => h.elim)
                exact ⟨⟨HKS.out.1, fun j o hj h1 h2 => (HKS.out.2 j (by have := HG9.out.1; omega)).trans h1⟩, ⟨HKS.out.1, fun k hk => HKS.out.2 k (HG9.out.2.1 k hk)⟩, Nat.le_trans HSW.out HKS.out.1, by rw [HF.out, HDV.out]; exact HO4⟩
        · have hf0 : p0 = 0 := by omega
          subst hf0
          obtain ⟨bv, hbv⟩ : ∃ bv, b = bv := ⟨_, rfl⟩
          have HBV := Aside0.mk (show befD b o1 0 = bv by rw [befD, if_neg hf, hbv])
          clear hf
          subst hbv
          by_cases ht : p1 < N
          · obtain ⟨av, hav⟩ : ∃ av, o1.getD p1 0 = av := ⟨_, rfl⟩
            have HAV := Aside0.mk (show aftD b N o1 p1 = av by rw [aftD, if_pos ht, hav])
            obtain ⟨xt, -⟩ := HOB.out.int_cell 1 rfl p1 ht
            rw [hav] at xt
            have t1 : ((p1 : Int) < (N : Int)) = True := eq_true (by omega)
            have t2 : (p1 < N) = True := eq_true ht
            clear ht hav
            by_cases he : b = av
            · have ee : (b == av) = true := beq_iff_eq.mpr he
              have HDV := Aside0.mk (show (if befD b o1 0 = aftD b N o1 p1 then befD b o1 0 else b) = b by rw [HBV.out, HAV.out, if_pos he])
              clear he
              gi_wp2
              refine round_still_tail 3 (by rfl) (by rintro ⟨_, _, h⟩; exact h) (by kernel_rfl) (by kernel_rfl) ?_
              simp only [List.take_succ_cons, List.take_zero, List.drop_succ_cons, List.drop_zero]
              repeat still_step
              try refine wpStill_nil ?_
              change wpList _ _ _ _ _ W.drew
              go_wp2
              gi_wp2
              gi_loopw [15] (fun v15 w' => ∃ (i : Nat), v15 = .int .i64 i ∧ Aside0 (0 ≤ i ∧ i ≤ p1) ∧ Aside0 (Own w w' [.box gb 3 #[.int .i64 b], .row (Kd.int .i64) 3 w.heap.size (.slice (some ⟨g, 0, none⟩) N co) (fillR o1 0 i b), .box go 26 #[.slice (some ⟨g, 0, none⟩) N co]] (fun k o => W.heap[k]? = some o ∧ o.isCells = false)) ∧ Aside0 (KeepS (· ≠ g) W w')) (fun v15 _ => p1 - (intOf v15).toNat)
              case atStart => exact ⟨0, rfl, ⟨Nat.le_refl _, by have := HXB.out; omega⟩, ⟨by rw [fillR_self]; exact (HOB.out.keep (fun _ _ h => h)).drew⟩, ⟨⟨Nat.le_refl _, fun _ _ => rfl⟩⟩⟩
              case round =>
                obtain ⟨i, rfl, HI, HOO, HKS⟩ := hrel
                have HO := HOO.out
                clear HOO
                have v2 : wr.cell? ⟨g9, 1, none⟩ = some (.int .i64 (p1 : Int)) := (blk_cell ((HKS.out.2 g9 HG9.out.2.2).trans HH9.out) 1).trans rfl
                by_cases hlt2 : i < p1
                case pos =>
                  obtain ⟨y1, f1⟩ := HO.int_cell 1 rfl i (by have := HXB.out; omega)
                  have y0 := HO.box_cell 2 rfl 0 rfl
                  have q1 : ((i : Int) < (p1 : Int)) = True := eq_true (by omega)
                  have q2 : ((i : Int) < (N : Int)) = True := eq_true (by have := HXB.out; omega)
                  have q3 : (i < N) = True := eq_true (by have := HXB.out; omega)
                  have pi : (0 ≤ (i : Int)) = True := eq_true (by omega)
                  have hib : (i : Int) + 1 ≤ 1000001 := by have := HXB.out; omega
                  have HIL := Aside0.mk hlt2
                  clear hlt2
                  gi_wp2
                  have HO2 := HO.intput 1 rfl i b
                  have HKT := Aside0.mk (HKS.out.trans (keepS_one wr g i (.int .i64 b)))
                  go_roundw
                  case rel => exact ⟨i + 1, by go_num, ⟨by have := HI.out; omega, HIL.out⟩, ⟨by rw [← fillR_step o1 0 i b HI.out.1 (by have := HO1L.out; have := HXB.out; have := HIL.out; omega)]; exact HO2⟩, HKT⟩
                  case measure => have := HIL.out; simp [intOf]; omega
                have hie : i = p1 := by have := HI.out; omega
                have q1 : ¬ ((i : Int) < (p1 : Int)) := by omega
                rw [hie] at HO
                clear hlt2 hie
                gi_wp2
                have HO4 := HO.keep (K' := fun _ _ => False) (fun _ _ h => h.elim)
                exact ⟨⟨HKS.out.1, fun j o hj h1 h2 => (HKS.out.2 j (by have := HG9.out.1; omega)).trans h1⟩, ⟨HKS.out.1, fun k hk => HKS.out.2 k (HG9.out.2.1 k hk)⟩, Nat.le_trans HSW.out HKS.out.1, by rw [HF.out, HDV.out]; exact HO4⟩
            · have ee : (b == av) = false := beq_eq_false_iff_ne.mpr he
              have HDV := Aside0.mk (show (if befD b o1 0 = aftD b N o1 p1 then befD b o1 0 else b) = b by rw [HBV.out, HAV.out, if_neg he])
              clear he
              gi_wp2
              refine round_still_tail 3 (by rfl) (by rintro ⟨_, _, h⟩; exact h) (by kernel_rfl) (by kernel_rfl) ?_
              simp only [List.take_succ_cons, List.take_zero, List.drop_succ_cons, List.drop_zero]
              repeat still_step
              try refine wpStill_nil ?_
              change wpList _ _ _ _ _ W.drew
              go_wp2
              gi_wp2
              gi_loopw [15] (fun v15 w' => ∃ (i : Nat), v15 = .int .i64 i ∧ Aside0 (0 ≤ i ∧ i ≤ p1) ∧ Aside0 (Own w w' [.box gb 3 #[.int .i64 b], .row (Kd.int .i64) 3 w.heap.size (.slice (some ⟨g, 0, none⟩) N co) (fillR o1 0 i b), .box go 26 #[.slice (some ⟨g, 0, none⟩) N co]] (fun k o => W.heap[k]? = some o ∧ o.isCells = false)) ∧ Aside0 (KeepS (· ≠ g) W w')) (fun v15 _ => p1 - (intOf v15).toNat)
              case atStart => exact ⟨0, rfl, ⟨Nat.le_refl _, by have := HXB.out; omega⟩, ⟨by rw [fillR_self]; exact (HOB.out.keep (fun _ _ h => h)).drew⟩, ⟨⟨Nat.le_refl _, fun _ _ => rfl⟩⟩⟩
              case round =>
                obtain ⟨i, rfl, HI, HOO, HKS⟩ := hrel
                have HO := HOO.out
                clear HOO
                have v2 : wr.cell? ⟨g9, 1, none⟩ = some (.int .i64 (p1 : Int)) := (blk_cell ((HKS.out.2 g9 HG9.out.2.2).trans HH9.out) 1).trans rfl
                by_cases hlt2 : i < p1
                case pos =>
                  obtain ⟨y1, f1⟩ := HO.int_cell 1 rfl i (by have := HXB.out; omega)
                  have y0 := HO.box_cell 2 rfl 0 rfl
                  have q1 : ((i : Int) < (p1 : Int)) = True := eq_true (by omega)
                  have q2 : ((i : Int) < (N : Int)) = True := eq_true (by have := HXB.out; omega)
                  have q3 : (i < N) = True := eq_true (by have := HXB.out; omega)
                  have pi : (0 ≤ (i : Int)) = True := eq_true (by omega)
                  have hib : (i : Int) + 1 ≤ 1000001 := by have := HXB.out; omega
                  have HIL := Aside0.mk hlt2
                  clear hlt2
                  gi_wp2
                  have HO2 := HO.intput 1 rfl i b
                  have HKT := Aside0.mk (HKS.out.trans (keepS_one wr g i (.int .i64 b)))
                  go_roundw
                  case rel => exact ⟨i + 1, by go_num, ⟨by have := HI.out; omega, HIL.out⟩, ⟨by rw [← fillR_step o1 0 i b HI.out.1 (by have := HO1L.out; have := HXB.out; have := HIL.out; omega)]; exact HO2⟩, HKT⟩
                  case measure => have := HIL.out; simp [intOf]; omega
                have hie : i = p1 := by have := HI.out; omega
                have q1 : ¬ ((i : Int) < (p1 : Int)) := by omega
                rw [hie] at HO
                clear hlt2 hie
                gi_wp2
                have HO4 := HO.keep (K' := fun _ _ => False) (fun _ _ h => h.elim)
                exact ⟨⟨HKS.out.1, fun j o hj h1 h2 => (HKS.out.2 j (by have := HG9.out.1; omega)).trans h1⟩, ⟨HKS.out.1, fun k hk => HKS.out.2 k (HG9.out.2.1 k hk)⟩, Nat.le_trans HSW.out HKS.out.1, by rw [HF.out, HDV.out]; exact HO4⟩
          · obtain ⟨av, hav⟩ : ∃ av, b = av := ⟨_, rfl⟩
            have HAV := Aside0.mk (show aftD b N o1 p1 = av by rw [aftD, if_neg ht, hav])
            have t1 : ((p1 : Int) < (N : Int)) = False := eq_false (by omega)
            have t2 : (p1 < N) = False := eq_false ht
            clear ht
            subst hav
            by_cases he : b = b
            · have ee : (b == b) = true := beq_iff_eq.mpr he
              have HDV := Aside0.mk (show (if befD b o1 0 = aftD b N o1 p1 then befD b o1 0 else b) = b by rw [HBV.out, HAV.out, if_pos he])
              clear he
              gi_wp2
              refine round_still_tail 3 (by rfl) (by rintro ⟨_, _, h⟩; exact h) (by kernel_rfl) (by kernel_rfl) ?_
              simp only [List.take_succ_cons, List.take_zero, List.drop_succ_cons, List.drop_zero]
              repeat still_step
              try refine wpStill_nil ?_
              change wpList _ _ _ _ _ W.drew
              go_wp2
              gi_wp2
              gi_loopw [15] (fun v15 w' => ∃ (i : Nat), v15 = .int .i64 i ∧ Aside0 (0 ≤ i ∧ i ≤ p1) ∧ Aside0 (Own w w' [.box gb 3 #[.int .i64 b], .row (Kd.int .i64) 3 w.heap.size (.slice (some ⟨g, 0, none⟩) N co) (fillR o1 0 i b), .box go 26 #[.slice (some ⟨g, 0, none⟩) N co]] (fun k o => W.heap[k]? = some o ∧ o.isCells = false)) ∧ Aside0 (KeepS (· ≠ g) W w')) (fun v15 _ => p1 - (intOf v15).toNat)
              case atStart => exact ⟨0, rfl, ⟨Nat.le_refl _, by have := HXB.out; omega⟩, ⟨by rw [fillR_self]; exact (HOB.out.keep (fun _ _ h => h)).drew⟩, ⟨⟨Nat.le_refl _, fun _ _ => rfl⟩⟩⟩
              case round =>
                obtain ⟨i, rfl, HI, HOO, HKS⟩ := hrel
                have HO := HOO.out
                clear HOO
                have v2 : wr.cell? ⟨g9, 1, none⟩ = some (.int .i64 (p1 : Int)) := (blk_cell ((HKS.out.2 g9 HG9.out.2.2).trans HH9.out) 1).trans rfl
                by_cases hlt2 : i < p1
                case pos =>
                  obtain ⟨y1, f1⟩ := HO.int_cell 1 rfl i (by have := HXB.out; omega)
                  have y0 := HO.box_cell 2 rfl 0 rfl
                  have q1 : ((i : Int) < (p1 : Int)) = True := eq_true (by omega)
                  have q2 : ((i : Int) < (N : Int)) = True := eq_true (by have := HXB.out; omega)
                  have q3 : (i < N) = True := eq_true (by have := HXB.out; omega)
                  have pi : (0 ≤ (i : Int)) = True := eq_true (by omega)
                  have hib : (i : Int) + 1 ≤ 1000001 := by have := HXB.out; omega
                  have HIL := Aside0.mk hlt2
                  clear hlt2
                  gi_wp2
                  have HO2 := HO.intput 1 rfl i b
                  have HKT := Aside0.mk (HKS.out.trans (keepS_one wr g i (.int .i64 b)))
                  go_roundw
                  case rel => exact ⟨i + 1, by go_num, ⟨by have := HI.out; omega, HIL.out⟩, ⟨by rw [← fillR_step o1 0 i b HI.out.1 (by have := HO1L.out; have := HXB.out; have := HIL.out; omega)]; exact HO2⟩, HKT⟩
                  case measure => have := HIL.out; simp [intOf]; omega
                have hie : i = p1 := by have := HI.out; omega
                have q1 : ¬ ((i : Int) < (p1 : Int)) := by omega
                rw [hie] at HO
                clear hlt2 hie
                gi_wp2
                have HO4 := HO.keep (K' := fun _ _ => False) (fun _ _ h => h.elim)
                exact ⟨⟨HKS.out.1, fun j o hj h1 h2 => (HKS.out.2 j (by have := HG9.out.1; omega)).trans h1⟩, ⟨HKS.out.1, fun k hk => HKS.out.2 k (HG9.out.2.1 k hk)⟩, Nat.le_trans HSW.out HKS.out.1, by rw [HF.out, HDV.out]; exact HO4⟩
            · have ee : (b == b) = false := beq_eq_false_iff_ne.mpr he
              have HDV := Aside0.mk (show (if befD b o1 0 = aftD b N o1 p1 then befD b o1 0 else b) = b by rw [HBV.out, HAV.out, if_neg he])
              clear he
              gi_wp2
              refine round_still_tail 3 (by rfl) (by rintro ⟨_, _, h⟩; exact h) (by kernel_rfl) (by kernel_rfl) ?_
              simp only [List.take_succ_cons, List.take_zero, List.drop_succ_cons, List.drop_zero]
              repeat still_step
              try refine wpStill_nil ?_
              change wpList _ _ _ _ _ W.drew
              go_wp2
              gi_wp2
              gi_loopw [15] (fun v15 w' => ∃ (i : Nat), v15 = .int .i64 i ∧ Aside0 (0 ≤ i ∧ i ≤ p1) ∧ Aside0 (Own w w' [.box gb 3 #[.int .i64 b], .row (Kd.int .i64) 3 w.heap.size (.slice (some ⟨g, 0, none⟩) N co) (fillR o1 0 i b), .box go 26 #[.slice (some ⟨g, 0, none⟩) N co]] (fun k o => W.heap[k]? = some o ∧ o.isCells = false)) ∧ Aside0 (KeepS (· ≠ g) W w')) (fun v15 _ => p1 - (intOf v15).toNat)
              case atStart => exact ⟨0, rfl, ⟨Nat.le_refl _, by have := HXB.out; omega⟩, ⟨by rw [fillR_self]; exact (HOB.out.keep (fun _ _ h => h)).drew⟩, ⟨⟨Nat.le_refl _, fun _ _ => rfl⟩⟩⟩
              case round =>
                obtain ⟨i, rfl, HI, HOO, HKS⟩ := hrel
                have HO := HOO.out
                clear HOO
                have v2 : wr.cell? ⟨g9, 1, none⟩ = some (.int .i64 (p1 : Int)) := (blk_cell ((HKS.out.2 g9 HG9.out.2.2).trans HH9.out) 1).trans rfl
                by_cases hlt2 : i < p1
                case pos =>
                  obtain ⟨y1, f1⟩ := HO.int_cell 1 rfl i (by have := HXB.out; omega)
                  have y0 := HO.box_cell 2 rfl 0 rfl
                  have q1 : ((i : Int) < (p1 : Int)) = True := eq_true (by omega)
                  have q2 : ((i : Int) < (N : Int)) = True := eq_true (by have := HXB.out; omega)
                  have q3 : (i < N) = True := eq_true (by have := HXB.out; omega)
                  have pi : (0 ≤ (i : Int)) = True := eq_true (by omega)
                  have hib : (i : Int) + 1 ≤ 1000001 := by have := HXB.out; omega
                  have HIL := Aside0.mk hlt2
                  clear hlt2
                  gi_wp2
                  have HO2 := HO.intput 1 rfl i b
                  have HKT := Aside0.mk (HKS.out.trans (keepS_one wr g i (.int .i64 b)))
                  go_roundw
                  case rel => exact ⟨i + 1, by go_num, ⟨by have := HI.out; omega, HIL.out⟩, ⟨by rw [← fillR_step o1 0 i b HI.out.1 (by have := HO1L.out; have := HXB.out; have := HIL.out; omega)]; exact HO2⟩, HKT⟩
                  case measure => have := HIL.out; simp [intOf]; omega
                have hie : i = p1 := by have := HI.out; omega
                have q1 : ¬ ((i : Int) < (p1 : Int)) := by omega
                rw [hie] at HO
                clear hlt2 hie
                gi_wp2
                have HO4 := HO.keep (K' := fun _ _ => False) (fun _ _ h => h.elim)
                exact ⟨⟨HKS.out.1, fun j o hj h1 h2 => (HKS.out.2 j (by have := HG9.out.1; omega)).trans h1⟩, ⟨HKS.out.1, fun k hk => HKS.out.2 k (HG9.out.2.1 k hk)⟩, Nat.le_trans HSW.out HKS.out.1, by rw [HF.out, HDV.out]; exact HO4⟩
    case done =>
      rintro D ys W hD hS2 ⟨hsW, HOd⟩ hDk
      have hvn : (ys.map (·.1)).foldl (dirP b N) (lastL b l) = (pcs (fun k => k == 0) 0 l).foldl (dirP b N) (lastL b l) := by rw [hS2]
      rw [hvn] at HOd
      obtain ⟨o2, ho2⟩ : ∃ o2, (pcs (fun k => k == 0) 0 l).foldl (dirP b N) (lastL b l) = o2 := ⟨_, rfl⟩
      rw [ho2] at HOd
      have HDF := Aside0.mk (show dirF (bytesOf s) l = lineL b (bytesOf s) o2 by rw [dirF, HB.out, HN.out, ho2])
      have HDN := Aside0.mk (show [D].Nodup ∧ ∀ D' ∈ [D], w.heap.size ≤ D' from ⟨by simp, fun D' h' => by rw [List.mem_singleton.mp h']; have := HLE5.out; omega⟩)
      have HO4 := HOd.keep (K' := keptD [D]) (fun j o h1 => by
        obtain ⟨h1, rfl⟩ := h1
        rw [List.mem_singleton.mp h1]
        exact ⟨hDk, rfl⟩)
      have HO2L := Aside0.mk (HOd.row_sl 1 rfl).1
      clear HOd hvn hDk hst hD hS2 ho2
      go_wp2_with (first
        | ((with_reducible refine gate_dst (N := 88) rfl ?_); refine ev_bytes (N := 88) HO4 rfl rfl 9 33 5 (.tmp 87) rfl Try.underlying9 Try.underlying33 Try.underlying5 s rfl ?_; intro g8 c8 W8 HO8 hb8; clear HO4 hb8))
      go_loopw [90] (fun v90 w' => ∃ (k : Nat), v90 = .int .i64 k ∧ Aside0 (k ≤ N) ∧ Aside0 (Own w w' [.box gb 3 #[.int .i64 b], .row (Kd.int .i64) 3 w.heap.size (.slice Ao N co) (lineL b ((bytesOf s).take k) o2), .box go 26 #[.slice Ao N co], .bytes g8 s] (keptD [D]))) (fun v90 _ => N - (intOf v90).toNat)
      case atStart => exact ⟨0, rfl, ⟨Nat.zero_le _⟩, ⟨HO8⟩⟩
      case round =>
        clear HO8
        obtain ⟨k, rfl, HK, HOO⟩ := hrel
        have HO := HOO.out
        clear HOO
        have hsz : s.size = N := HS.out
        by_cases hlt : k < N
        case neg =>
          have hk : k = N := by have := HK.out; omega
          have q1 : ¬ ((k : Int) < (s.size : Int)) := by omega
          have HV := Aside0.mk (show lineL b ((bytesOf s).take k) o2 = dirF (bytesOf s) l by rw [HDF.out, List.take_of_length_le (by rw [bytesOf_length]; omega)])
          rw [HV.out] at HO
          have b2 := HO.box_cell 2 rfl 0 rfl
          clear hlt hk
          go_wp2
          exact leaves_marks (fun W' HW => ⟨_, results_tmp rfl _ _ _, _, rfl, HW.row_R 1 rfl, HW.below⟩) [D] _ HO HDN.out.1 HDN.out.2
        obtain ⟨g, hg⟩ : ∃ g, Ao = some ⟨g, 0, none⟩ := by
          obtain ⟨ad, hA, -⟩ := (HO.row_sl 1 rfl).2.2.2.2 (by have := (HO.row_sl 1 rfl).1; omega)
          subst hA
          obtain ⟨g, rfl⟩ := HO.row_head 1 rfl
          exact ⟨g, rfl⟩
        subst hg
        have x0 := HO.byte_cell 3 rfl k (by omega)
        have hrg := bytes_range s k
        have hst := lineL_step b k (bytesOf s) o2 (by rw [bytesOf_length]; omega) (by have := HO2L.out; omega)
        obtain ⟨bb, hbb⟩ : ∃ bb, (bytesOf s).getD k 0 = bb := ⟨_, rfl⟩
        rw [hbb] at x0 hrg hst
        have HCL := Aside0.mk (classP_some hrg.1 hrg.2)
        obtain ⟨t, ht⟩ : ∃ t, classP bb = t := ⟨_, rfl⟩
        rw [ht] at HCL hst
        have HST := Aside0.mk hst
        have hw : IntKind.i64.wrap bb = bb := IntWalk.i64_in bb (by omega)
        have q1 : ((k : Int) < (s.size : Int)) = True := eq_true (by omega)
        have q2 : ((k : Int) < (N : Int)) = True := eq_true (by omega)
        have pk : (0 ≤ (k : Int)) = True := eq_true (by omega)
        have hkb : (k : Int) + 1 ≤ 1000001 := by omega
        have HKL := Aside0.mk hlt
        clear hlt hbb ht hst hrg hsz
        by_cases h1 : t = 1
        · have e1 : (t == 1) = true := beq_iff_eq.mpr h1
          have HS2 := Aside0.mk (show lineL b ((bytesOf s).take (k + 1)) o2 = (lineL b ((bytesOf s).take k) o2).set k b by rw [HST.out, if_pos h1])
          clear h1
          go_wp2_with (first
            | (go_at_call 46; (with_reducible refine (chars_Class.calls 40 bb t _ HCL.out).mono ?_); rintro e W9 ⟨rfl, hb9⟩; have HO2 := HO.grow hb9; clear HO hb9 x0; have y0 := HO2.box_cell 0 rfl 0 rfl; have y2 := HO2.box_cell 2 rfl 0 rfl; obtain ⟨y1, f1⟩ := HO2.int_cell 1 rfl k HKL.out))
          have HO3 := HO2.intput 1 rfl k b
          go_roundw
          case rel => exact ⟨k + 1, by go_num, ⟨HKL.out⟩, ⟨by rw [HS2.out]; exact HO3⟩⟩
          case measure => have := HKL.out; simp [intOf]; omega
        · have e1 : (t == 1) = false := beq_eq_false_iff_ne.mpr h1
          have HS2 := Aside0.mk (show lineL b ((bytesOf s).take (k + 1)) o2 = lineL b ((bytesOf s).take k) o2 by rw [HST.out, if_neg h1])
          clear h1
          go_wp2_with (first
            | (go_at_call 46; (with_reducible refine (chars_Class.calls 40 bb t _ HCL.out).mono ?_); rintro e W9 ⟨rfl, hb9⟩; have HO2 := HO.grow hb9; clear HO hb9 x0))
          go_roundw
          case rel => exact ⟨k + 1, by go_num, ⟨HKL.out⟩, ⟨by rw [HS2.out]; exact HO2⟩⟩
          case measure => have := HKL.out; simp [intOf]; omega
    case stop =>
      rintro D cd pre W hD hSp h
      exact h.elim
end Go.Proofs.Ytacnckneiklgpaa.Q

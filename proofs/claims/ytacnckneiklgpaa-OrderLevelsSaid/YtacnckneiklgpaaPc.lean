/- order.pieces: the longest pieces of a list with one value of a function; its iterators at int and bool. Printed by genPc.py. -/
import Derived.Test.YtacnckneiklgpaaBs
import Derived.Test.YtacnckneiklgpaaRnd
import Derived.Deep.RegionHeld3
import Derived.BigRegion
namespace Go.Proofs.Ytacnckneiklgpaa.Q
open Go.RowKit Go.Proofs.YtacnckneiklgpaaW.PrintWords Go.Proofs.YtacnckneiklgpaaW.PrintLast Go.Proofs.YtacnckneiklgpaaW.PrintMore
set_option linter.unusedSimpArgs false
set_option linter.unusedVariables false
section
variable {β : Type} [DecidableEq β]
def runLen (f : Int → β) (v : β) : List Int → Nat
  | [] => 0
  | x :: r => if f x = v then runLen f v r + 1 else 0
/-- The pieces: where each begins, where it ends, its value. -/
def pcs (f : Int → β) : Nat → List Int → List (Nat × Nat × β)
  | _, [] => []
  | off, x :: r => match pcs f (off + 1) r with
    | [] => [(off, off + 1, f x)]
    | p :: ps => if p.2.2 = f x then (off, p.2.1, f x) :: ps else (off, off + 1, f x) :: p :: ps
theorem pcs_step (f : Int → β) : ∀ (r : List Int) (x : Int) (off : Nat), pcs f off (x :: r) = (off, off + 1 + runLen f (f x) r, f x) :: pcs f (off + 1 + runLen f (f x) r) (r.drop (runLen f (f x) r))
  | [], x, off => rfl
  | y :: s, x, off => by
    have ih := pcs_step f s y (off + 1)
    rw [pcs, ih]
    by_cases h : f y = f x
    · simp only [runLen, if_pos h, h]
      rw [show off + 1 + 1 + runLen f (f x) s = off + 1 + (runLen f (f x) s + 1) by omega]
      simp
    · simp only [runLen, if_neg h]
      rw [← ih]
      rfl
theorem runLen_le (f : Int → β) (v : β) : ∀ l : List Int, runLen f v l ≤ l.length
  | [] => Nat.le_refl _
  | x :: r => by
    have := runLen_le f v r
    simp only [runLen, List.length_cons]
    split <;> omega
end
/-- Some elder blocks are as they were; none is lost. -/
def KeepS (S : Nat → Prop) (A B : World) : Prop := A.heap.size ≤ B.heap.size ∧ ∀ k, S k → B.heap[k]? = A.heap[k]?
theorem KeepS.refl (S : Nat → Prop) (A : World) : KeepS S A A := ⟨Nat.le_refl _, fun _ _ => rfl⟩
theorem KeepS.trans {S : Nat → Prop} {A B C : World} (h : KeepS S A B) (k : KeepS S B C) : KeepS S A C := ⟨Nat.le_trans h.1 k.1, fun j hj => (k.2 j hj).trans (h.2 j hj)⟩
theorem KeepS.below {S : Nat → Prop} {w A B : World} (hS : ∀ k, S k → k < w.heap.size) (h : KeepS S w A) (hb : Below A.heap.size A B) : KeepS S w B := ⟨Nat.le_trans h.1 hb.size, fun j hj => (hb.block j (Nat.lt_of_lt_of_le (hS j hj) h.1)).trans (h.2 j hj)⟩
theorem KeepS.step {S : Nat → Prop} {w A B : World} (hS : ∀ k, S k → k < w.heap.size) (h : KeepS S w A) (hb : Below A.heap.size A B) : KeepS S A B := ⟨hb.size, fun j hj => hb.block j (Nat.lt_of_lt_of_le (hS j hj) h.1)⟩
theorem at_int {w : World} {A : Option Addr} {n : Nat} {xs : List Int} (h : (Kd.int .i64).C w A n xs) (k : Nat) (hk : k < n) : ∃ ad, A = some ad ∧ w.cell? (ad.add k) = some (.int .i64 (xs.getD k 0)) := by
  obtain ⟨ad, c, e, _, hK, hc0⟩ := Kd.C_get h (0 : Int) (k : Int) (by omega) (by omega)
  rw [Int.toNat_natCast] at hK hc0
  have hc : ∀ j u, c[j]? = some u → w.cell? (ad.add (k * 1 + j)) = some u := hc0
  obtain rfl := hK
  exact ⟨ad, e, by have hq := hc 0 _ rfl; rwa [Nat.mul_one, Nat.add_zero] at hq⟩

set_option maxRecDepth 100000 in
set_option maxHeartbeats 4000000 in
theorem piecesI1 (n lp g1 g2 : Nat) (g : FuncId) (fr : Array Value) (A : Option Addr) (c : Nat) (l : List Int) (f : Int → Int) (S : Nat → Prop) (J Jx : List (Nat × Nat × Int) → World → Prop) (w W : World) (hW : KeepS S w W) (hS : ∀ k, S k → k < w.heap.size) (hJ : AbidesFrom W.heap.size J)
    (eg : ∀ args w, (callFunc g args).run Try.prog w = .ok (.enter g args) w)
    (hE : ∀ W, KeepS S w W → W.cell? ⟨g1, 0, none⟩ = some (.slice A l.length c) ∧ W.cell? ⟨g2, 0, none⟩ = some (.func (.func g) #[] fr) ∧ (Kd.int .i64).C W A l.length l ∧ ∀ x ∈ l, Calls Try.prog g (#[.int .i64 x] ++ fr) W fun e w' => e = .returned (Value.int .i64 (f x)) ∧ Below W.heap.size W w')
    (hY : ∀ pre (x : Nat × Nat × Int) W1, J pre W1 → pre ++ [x] <+: pcs f 0 l → YieldAt Fence.wide (n - 1) Try.prog lp #[.agg #[.int .i64 x.1, .int .i64 x.2.1], Value.int .i64 x.2.2] W1 fun e W' =>
      (e = .returned (.bool true) ∧ J (pre ++ [x]) W' ∧ KeepS S W1 W') ∨ (e = .returned (.bool false) ∧ Jx (pre ++ [x]) W'))
    (h0 : J [] W) :
    CallsIn Fence.wide n Try.prog 49 #[.func (.yield lp) #[] #[], .pointer (some ⟨g1, 0, none⟩), .pointer (some ⟨g2, 0, none⟩)] W fun e W' => (∃ v, e = .returned v) ∧
      ((∃ ys, ys = pcs f 0 l ∧ J ys W') ∨ (∃ pre, pre <+: pcs f 0 l ∧ Jx pre W')) := by
  have HS := Aside0.mk hS
  have HE := Aside0.mk hE
  have HJ := Aside0.mk hJ
  have HY := Aside0.mk hY
  have HWB := Aside0.mk hW
  have hlm : (l.length : Int) ≤ 9223372036854775807 := by have := Kd.C_max (hE W hW).2.2.1; omega
  clear hW hS hJ hE hY
  refine callsIn_wide.2 ?_
  go_enter Try.func49, Try.ntmps49
  go_wp2
  go_loopw [4] (fun v4 wr => ∃ (k : Nat) (pre : List (Nat × Nat × Int)), v4 = .int .i64 k ∧ Aside0 (k ≤ l.length) ∧ Aside0 (pre ++ pcs f k (l.drop k) = pcs f 0 l) ∧ Aside0 (J pre wr) ∧ Aside0 (KeepS S w wr))
    (fun v4 _ => l.length - (intOf v4).toNat)
  case atStart =>
    exact ⟨0, [], rfl, ⟨Nat.zero_le _⟩, ⟨rfl⟩, ⟨h0⟩, HWB⟩
  case round =>
    clear h0 HWB
    obtain ⟨k, pre, rfl, HK, HL, HJs, HB⟩ := hrel
    obtain ⟨x1, x2, hC, hcall⟩ := HE.out wr HB.out
    by_cases hlt : k < l.length
    case neg =>
      have hkl : k = l.length := by have := HK.out; omega
      have q1 : ¬ ((k : Int) < (l.length : Int)) := by omega
      have HLE := Aside0.mk (show pre = pcs f 0 l by rw [← HL.out, hkl, List.drop_of_length_le (Nat.le_refl _)]; simp [pcs])
      clear hcall hC hlt hkl
      go_wp2
      go_end0
      exact ⟨⟨_, rfl⟩, .inl (by have h := HJs.out; rw [HLE.out] at h; exact h)⟩
    obtain ⟨ad, rfl, z0⟩ := at_int hC k hlt
    obtain ⟨b, hb⟩ : ∃ b, l.getD k 0 = b := ⟨_, rfl⟩
    have hdr : l.drop k = b :: l.drop (k + 1) := by rw [← hb, List.drop_eq_getElem_cons hlt, List.getD_eq_getElem?_getD, List.getElem?_eq_getElem hlt]; rfl
    have hmem : b ∈ l := by rw [← hb, List.getD_eq_getElem?_getD, List.getElem?_eq_getElem hlt]; exact List.getElem_mem _
    rw [hb] at z0
    have HSTEP := Aside0.mk (show pre ++ (k, k + 1 + runLen f (f b) (l.drop (k + 1)), f b) :: pcs f (k + 1 + runLen f (f b) (l.drop (k + 1))) ((l.drop (k + 1)).drop (runLen f (f b) (l.drop (k + 1)))) = pcs f 0 l by rw [← pcs_step, ← hdr]; exact HL.out)
    have HCB := Aside0.mk (fun W' (h : KeepS S w W') => (HE.out W' h).2.2.2 b hmem)
    have HKL := Aside0.mk hlt
    have pk : (0 ≤ (k : Int)) = True := eq_true (by omega)
    have q1 : ((k : Int) < (l.length : Int)) = True := eq_true (by omega)
    have hkb : (k : Int) + 1 ≤ 9223372036854775807 := by omega
    clear hcall hC hlt hb hdr hmem HL
    obtain ⟨v, hv⟩ : ∃ v, f b = v := ⟨_, rfl⟩
    obtain ⟨T, hT⟩ : ∃ T, k + 1 + runLen f v (l.drop (k + 1)) = T := ⟨_, rfl⟩
    rw [hv] at HSTEP HCB
    rw [List.drop_drop, hT] at HSTEP
    have HT := Aside0.mk hT
    have HTL := Aside0.mk (show T ≤ l.length by have h := runLen_le f v (l.drop (k + 1)); rw [List.length_drop] at h; have := HKL.out; omega)
    have HBD := Aside0.mk (KeepS.below HS.out HB.out (below_drew (Below.refl wr.heap.size wr)))
    have HZ0 := Aside0.mk z0
    have hwk : IntKind.i64.wrap ((k : Int) + 1) = (k : Int) + 1 := IntWalk.i64_in _ (by omega)
    clear hv hT
    go_upto_region 2 with fail
    go_region_held3 (fun w' => w'.cell? ⟨g1, 0, none⟩ = some (.slice (some ad) l.length c) ∧ w'.cell? ⟨g2, 0, none⟩ = some (.func (.func g) #[] fr) ∧ w'.cell? (ad.add k) = some (.int .i64 b)) (go_keep) (first
      | ((with_reducible refine (HCB.out _ HBD.out).mono ?_); rintro e w2 ⟨rfl, hb2⟩; have HB2 := Aside0.mk (KeepS.below HS.out HBD.out hb2); have HJ2 := Aside0.mk (HJ.out _ _ _ none HJs.out (grown_of_below (below_step (below_drew (Below.refl wr.heap.size wr)) hb2) none) (fun r e => by cases e)); obtain ⟨y1, y2, -, -⟩ := HE.out _ HB2.out; have y0 := pw_cell_below (below_step (below_drew (Below.refl wr.heap.size wr)) hb2) HZ0.out; clear hb2))
    clear x1 x2 z0 y0 y1 y2 HZ0 HBD HJs HB
    go_wp2
    go_loopw [6] (fun v6 wr => ∃ (t : Nat), v6 = .int .i64 t ∧ Aside0 (k + 1 ≤ t ∧ t ≤ l.length) ∧ Aside0 (t + runLen f v (l.drop t) = T) ∧ Aside0 (J pre wr) ∧ Aside0 (KeepS S w wr))
      (fun v6 _ => l.length - (intOf v6).toNat)
    case atStart => exact ⟨k + 1, by go_num, ⟨Nat.le_refl _, HKL.out⟩, ⟨HT.out⟩, HJ2, HB2⟩
    case round =>
      clear HJ2 HB2
      obtain ⟨t, rfl, HTK, HTT, HJs, HB⟩ := hrel
      obtain ⟨x1, x2, hC, hcall⟩ := HE.out wr HB.out
      by_cases hlt : t < l.length
      case neg =>
        have htl : t = l.length := by have := HTK.out; omega
        have q3 : ¬ ((t : Int) < (l.length : Int)) := by omega
        have HTE := Aside0.mk (show t = T by rw [← HTT.out, htl, List.drop_of_length_le (Nat.le_refl _)]; rfl)
        have HBD := Aside0.mk (KeepS.below HS.out HB.out (below_drew (Below.refl wr.heap.size wr)))
        have HJD := Aside0.mk (HJ.out _ _ _ none HJs.out (grown_of_below (below_drew (Below.refl wr.heap.size wr)) none) (fun r e => by cases e))
        clear hcall hC hlt htl
        go_upto_region 3 with fail
        go_big_region
        clear x1 x2
        go_upto_region 5 with fail
        obtain ⟨fn, tmps, assign, body, hy, hR⟩ := HY.out pre (k, t, v) _ HJD.out ⟨pcs f T (l.drop T), by rw [HTE.out, List.append_assoc]; exact HSTEP.out⟩
        have HRR := Aside0.mk hR
        clear hR
        dsimp only at hy
        refine (wpIn_wide (n := n)).1 ?_
        gi_wp2
        refine ⟨(fun h => by cases h), HRR.out.mono ?_⟩
        rintro e W3 (⟨rfl, hJ3, hk3⟩ | ⟨rfl, hJx3⟩)
        · have HJ3 := Aside0.mk hJ3
          have HK3 := Aside0.mk (KeepS.trans HBD.out hk3)
          clear hJ3 hk3
          gi_wp2
          go_wp2
          go_roundw
          case rel => exact ⟨t, pre ++ [(k, t, v)], rfl, ⟨HTK.out.2⟩, ⟨by rw [HTE.out, List.append_assoc]; exact HSTEP.out⟩, HJ3, HK3⟩
          case measure => have := HTK.out; simp [intOf]; omega
        · have HJ3 := Aside0.mk hJx3
          clear hJx3
          gi_wp2
          go_wp2
          refine bodyPost_ret (results_none rfl _ _ _) rfl ?_
          exact ⟨⟨_, rfl⟩, .inr ⟨pre ++ [(k, t, v)], ⟨pcs f T (l.drop T), by rw [HTE.out, List.append_assoc]; exact HSTEP.out⟩, HJ3.out⟩⟩
      obtain ⟨ad', hA, z1⟩ := at_int hC t hlt
      injection hA with hA
      subst hA
      obtain ⟨b2, hb2⟩ : ∃ b2, l.getD t 0 = b2 := ⟨_, rfl⟩
      have hdr : l.drop t = b2 :: l.drop (t + 1) := by rw [← hb2, List.drop_eq_getElem_cons hlt, List.getD_eq_getElem?_getD, List.getElem?_eq_getElem hlt]; rfl
      have hmem : b2 ∈ l := by rw [← hb2, List.getD_eq_getElem?_getD, List.getElem?_eq_getElem hlt]; exact List.getElem_mem _
      rw [hb2] at z1
      have HCB2 := Aside0.mk (fun W' (h : KeepS S w W') => (HE.out W' h).2.2.2 b2 hmem)
      have HTL2 := Aside0.mk hlt
      have p3 : (0 ≤ (t : Int)) = True := eq_true (by omega)
      have q3 : ((t : Int) < (l.length : Int)) = True := eq_true (by omega)
      have htb : (t : Int) + 1 ≤ 9223372036854775807 := by omega
      have HBD := Aside0.mk (KeepS.below HS.out HB.out (below_drew (Below.refl wr.heap.size wr)))
      have HZ1 := Aside0.mk z1
      obtain ⟨v2, hv2⟩ : ∃ v2, f b2 = v2 := ⟨_, rfl⟩
      rw [hv2] at HCB2
      clear hcall hC hlt hb2 hmem
      by_cases he : v2 = v
      case pos =>
        have HTN := Aside0.mk (show t + 1 + runLen f v (l.drop (t + 1)) = T by have h := HTT.out; rw [hdr, runLen, hv2, if_pos he] at h; omega)
        have qe : (v2 == v) = true := by rw [he]; exact beq_self_eq_true v
        clear hdr hv2 he
        go_upto_region 3 with fail
        go_region_held3 (fun w' => w'.cell? ⟨g1, 0, none⟩ = some (.slice (some ad) l.length c) ∧ w'.cell? ⟨g2, 0, none⟩ = some (.func (.func g) #[] fr) ∧ w'.cell? (ad.add t) = some (.int .i64 b2)) (go_keep) (first
          | ((with_reducible refine (HCB2.out _ HBD.out).mono ?_); rintro e w2 ⟨rfl, hb2⟩; have HB2 := Aside0.mk (KeepS.below HS.out HBD.out hb2); have HJ2 := Aside0.mk (HJ.out _ _ _ none HJs.out (grown_of_below (below_step (below_drew (Below.refl wr.heap.size wr)) hb2) none) (fun r e => by cases e)); obtain ⟨y1, y2, -, -⟩ := HE.out _ HB2.out; have y0 := pw_cell_below (below_step (below_drew (Below.refl wr.heap.size wr)) hb2) HZ1.out; clear hb2))
        clear x1 x2 z1 y0 y1 y2
        go_wp2
        go_roundw
        case rel => exact ⟨t + 1, by go_num, ⟨by have := HTK.out; omega, HTL2.out⟩, HTN, HJ2, HB2⟩
        case measure => have := HTL2.out; simp [intOf]; omega
      case neg =>
        have HTE := Aside0.mk (show t = T by have h := HTT.out; rw [hdr, runLen, hv2, if_neg he] at h; omega)
        have qe : (v2 == v) = false := beq_eq_false_iff_ne.mpr he
        clear hdr hv2 he
        go_upto_region 3 with fail
        go_region_held3 (fun w' => w'.cell? ⟨g1, 0, none⟩ = some (.slice (some ad) l.length c) ∧ w'.cell? ⟨g2, 0, none⟩ = some (.func (.func g) #[] fr) ∧ w'.cell? (ad.add t) = some (.int .i64 b2)) (go_keep) (first
          | ((with_reducible refine (HCB2.out _ HBD.out).mono ?_); rintro e w2 ⟨rfl, hb2⟩; have HB2 := Aside0.mk (KeepS.below HS.out HBD.out hb2); have HJD := Aside0.mk (HJ.out _ _ _ none HJs.out (grown_of_below (below_step (below_drew (Below.refl wr.heap.size wr)) hb2) none) (fun r e => by cases e)); clear HBD; have HBD := HB2; obtain ⟨y1, y2, -, -⟩ := HE.out _ HB2.out; have y0 := pw_cell_below (below_step (below_drew (Below.refl wr.heap.size wr)) hb2) HZ1.out; clear hb2))
        clear x1 x2 z1 y0 y1 y2
        go_upto_region 5 with fail
        obtain ⟨fn, tmps, assign, body, hy, hR⟩ := HY.out pre (k, t, v) _ HJD.out ⟨pcs f T (l.drop T), by rw [HTE.out, List.append_assoc]; exact HSTEP.out⟩
        have HRR := Aside0.mk hR
        clear hR
        dsimp only at hy
        refine (wpIn_wide (n := n)).1 ?_
        gi_wp2
        refine ⟨(fun h => by cases h), HRR.out.mono ?_⟩
        rintro e W3 (⟨rfl, hJ3, hk3⟩ | ⟨rfl, hJx3⟩)
        · have HJ3 := Aside0.mk hJ3
          have HK3 := Aside0.mk (KeepS.trans HBD.out hk3)
          clear hJ3 hk3
          gi_wp2
          go_wp2
          go_roundw
          case rel => exact ⟨t, pre ++ [(k, t, v)], rfl, ⟨HTK.out.2⟩, ⟨by rw [HTE.out, List.append_assoc]; exact HSTEP.out⟩, HJ3, HK3⟩
          case measure => have := HTK.out; simp [intOf]; omega
        · have HJ3 := Aside0.mk hJx3
          clear hJx3
          gi_wp2
          go_wp2
          refine bodyPost_ret (results_none rfl _ _ _) rfl ?_
          exact ⟨⟨_, rfl⟩, .inr ⟨pre ++ [(k, t, v)], ⟨pcs f T (l.drop T), by rw [HTE.out, List.append_assoc]; exact HSTEP.out⟩, HJ3.out⟩⟩

set_option maxRecDepth 100000 in
set_option maxHeartbeats 4000000 in
theorem piecesB1 (n lp g1 g2 : Nat) (g : FuncId) (fr : Array Value) (A : Option Addr) (c : Nat) (l : List Int) (f : Int → Bool) (S : Nat → Prop) (J Jx : List (Nat × Nat × Bool) → World → Prop) (w W : World) (hW : KeepS S w W) (hS : ∀ k, S k → k < w.heap.size) (hJ : AbidesFrom W.heap.size J)
    (eg : ∀ args w, (callFunc g args).run Try.prog w = .ok (.enter g args) w)
    (hE : ∀ W, KeepS S w W → W.cell? ⟨g1, 0, none⟩ = some (.slice A l.length c) ∧ W.cell? ⟨g2, 0, none⟩ = some (.func (.func g) #[] fr) ∧ (Kd.int .i64).C W A l.length l ∧ ∀ x ∈ l, Calls Try.prog g (#[.int .i64 x] ++ fr) W fun e w' => e = .returned (Value.bool (f x)) ∧ Below W.heap.size W w')
    (hY : ∀ pre (x : Nat × Nat × Bool) W1, J pre W1 → pre ++ [x] <+: pcs f 0 l → YieldAt Fence.wide (n - 1) Try.prog lp #[.agg #[.int .i64 x.1, .int .i64 x.2.1], Value.bool x.2.2] W1 fun e W' =>
      (e = .returned (.bool true) ∧ J (pre ++ [x]) W' ∧ KeepS S W1 W') ∨ (e = .returned (.bool false) ∧ Jx (pre ++ [x]) W'))
    (h0 : J [] W) :
    CallsIn Fence.wide n Try.prog 50 #[.func (.yield lp) #[] #[], .pointer (some ⟨g1, 0, none⟩), .pointer (some ⟨g2, 0, none⟩)] W fun e W' => (∃ v, e = .returned v) ∧
      ((∃ ys, ys = pcs f 0 l ∧ J ys W') ∨ (∃ pre, pre <+: pcs f 0 l ∧ Jx pre W')) := by
  have HS := Aside0.mk hS
  have HE := Aside0.mk hE
  have HJ := Aside0.mk hJ
  have HY := Aside0.mk hY
  have HWB := Aside0.mk hW
  have hlm : (l.length : Int) ≤ 9223372036854775807 := by have := Kd.C_max (hE W hW).2.2.1; omega
  clear hW hS hJ hE hY
  refine callsIn_wide.2 ?_
  go_enter Try.func50, Try.ntmps50
  go_wp2
  go_loopw [4] (fun v4 wr => ∃ (k : Nat) (pre : List (Nat × Nat × Bool)), v4 = .int .i64 k ∧ Aside0 (k ≤ l.length) ∧ Aside0 (pre ++ pcs f k (l.drop k) = pcs f 0 l) ∧ Aside0 (J pre wr) ∧ Aside0 (KeepS S w wr))
    (fun v4 _ => l.length - (intOf v4).toNat)
  case atStart =>
    exact ⟨0, [], rfl, ⟨Nat.zero_le _⟩, ⟨rfl⟩, ⟨h0⟩, HWB⟩
  case round =>
    clear h0 HWB
    obtain ⟨k, pre, rfl, HK, HL, HJs, HB⟩ := hrel
    obtain ⟨x1, x2, hC, hcall⟩ := HE.out wr HB.out
    by_cases hlt : k < l.length
    case neg =>
      have hkl : k = l.length := by have := HK.out; omega
      have q1 : ¬ ((k : Int) < (l.length : Int)) := by omega
      have HLE := Aside0.mk (show pre = pcs f 0 l by rw [← HL.out, hkl, List.drop_of_length_le (Nat.le_refl _)]; simp [pcs])
      clear hcall hC hlt hkl
      go_wp2
      go_end0
      exact ⟨⟨_, rfl⟩, .inl (by have h := HJs.out; rw [HLE.out] at h; exact h)⟩
    obtain ⟨ad, rfl, z0⟩ := at_int hC k hlt
    obtain ⟨b, hb⟩ : ∃ b, l.getD k 0 = b := ⟨_, rfl⟩
    have hdr : l.drop k = b :: l.drop (k + 1) := by rw [← hb, List.drop_eq_getElem_cons hlt, List.getD_eq_getElem?_getD, List.getElem?_eq_getElem hlt]; rfl
    have hmem : b ∈ l := by rw [← hb, List.getD_eq_getElem?_getD, List.getElem?_eq_getElem hlt]; exact List.getElem_mem _
    rw [hb] at z0
    have HSTEP := Aside0.mk (show pre ++ (k, k + 1 + runLen f (f b) (l.drop (k + 1)), f b) :: pcs f (k + 1 + runLen f (f b) (l.drop (k + 1))) ((l.drop (k + 1)).drop (runLen f (f b) (l.drop (k + 1)))) = pcs f 0 l by rw [← pcs_step, ← hdr]; exact HL.out)
    have HCB := Aside0.mk (fun W' (h : KeepS S w W') => (HE.out W' h).2.2.2 b hmem)
    have HKL := Aside0.mk hlt
    have pk : (0 ≤ (k : Int)) = True := eq_true (by omega)
    have q1 : ((k : Int) < (l.length : Int)) = True := eq_true (by omega)
    have hkb : (k : Int) + 1 ≤ 9223372036854775807 := by omega
    clear hcall hC hlt hb hdr hmem HL
    obtain ⟨v, hv⟩ : ∃ v, f b = v := ⟨_, rfl⟩
    obtain ⟨T, hT⟩ : ∃ T, k + 1 + runLen f v (l.drop (k + 1)) = T := ⟨_, rfl⟩
    rw [hv] at HSTEP HCB
    rw [List.drop_drop, hT] at HSTEP
    have HT := Aside0.mk hT
    have HTL := Aside0.mk (show T ≤ l.length by have h := runLen_le f v (l.drop (k + 1)); rw [List.length_drop] at h; have := HKL.out; omega)
    have HBD := Aside0.mk (KeepS.below HS.out HB.out (below_drew (Below.refl wr.heap.size wr)))
    have HZ0 := Aside0.mk z0
    have hwk : IntKind.i64.wrap ((k : Int) + 1) = (k : Int) + 1 := IntWalk.i64_in _ (by omega)
    clear hv hT
    go_upto_region 2 with fail
    go_region_held3 (fun w' => w'.cell? ⟨g1, 0, none⟩ = some (.slice (some ad) l.length c) ∧ w'.cell? ⟨g2, 0, none⟩ = some (.func (.func g) #[] fr) ∧ w'.cell? (ad.add k) = some (.int .i64 b)) (go_keep) (first
      | ((with_reducible refine (HCB.out _ HBD.out).mono ?_); rintro e w2 ⟨rfl, hb2⟩; have HB2 := Aside0.mk (KeepS.below HS.out HBD.out hb2); have HJ2 := Aside0.mk (HJ.out _ _ _ none HJs.out (grown_of_below (below_step (below_drew (Below.refl wr.heap.size wr)) hb2) none) (fun r e => by cases e)); obtain ⟨y1, y2, -, -⟩ := HE.out _ HB2.out; have y0 := pw_cell_below (below_step (below_drew (Below.refl wr.heap.size wr)) hb2) HZ0.out; clear hb2))
    clear x1 x2 z0 y0 y1 y2 HZ0 HBD HJs HB
    go_wp2
    go_loopw [6] (fun v6 wr => ∃ (t : Nat), v6 = .int .i64 t ∧ Aside0 (k + 1 ≤ t ∧ t ≤ l.length) ∧ Aside0 (t + runLen f v (l.drop t) = T) ∧ Aside0 (J pre wr) ∧ Aside0 (KeepS S w wr))
      (fun v6 _ => l.length - (intOf v6).toNat)
    case atStart => exact ⟨k + 1, by go_num, ⟨Nat.le_refl _, HKL.out⟩, ⟨HT.out⟩, HJ2, HB2⟩
    case round =>
      clear HJ2 HB2
      obtain ⟨t, rfl, HTK, HTT, HJs, HB⟩ := hrel
      obtain ⟨x1, x2, hC, hcall⟩ := HE.out wr HB.out
      by_cases hlt : t < l.length
      case neg =>
        have htl : t = l.length := by have := HTK.out; omega
        have q3 : ¬ ((t : Int) < (l.length : Int)) := by omega
        have HTE := Aside0.mk (show t = T by rw [← HTT.out, htl, List.drop_of_length_le (Nat.le_refl _)]; rfl)
        have HBD := Aside0.mk (KeepS.below HS.out HB.out (below_drew (Below.refl wr.heap.size wr)))
        have HJD := Aside0.mk (HJ.out _ _ _ none HJs.out (grown_of_below (below_drew (Below.refl wr.heap.size wr)) none) (fun r e => by cases e))
        clear hcall hC hlt htl
        go_upto_region 3 with fail
        go_big_region
        clear x1 x2
        go_upto_region 5 with fail
        obtain ⟨fn, tmps, assign, body, hy, hR⟩ := HY.out pre (k, t, v) _ HJD.out ⟨pcs f T (l.drop T), by rw [HTE.out, List.append_assoc]; exact HSTEP.out⟩
        have HRR := Aside0.mk hR
        clear hR
        dsimp only at hy
        refine (wpIn_wide (n := n)).1 ?_
        gi_wp2
        refine ⟨(fun h => by cases h), HRR.out.mono ?_⟩
        rintro e W3 (⟨rfl, hJ3, hk3⟩ | ⟨rfl, hJx3⟩)
        · have HJ3 := Aside0.mk hJ3
          have HK3 := Aside0.mk (KeepS.trans HBD.out hk3)
          clear hJ3 hk3
          gi_wp2
          go_wp2
          go_roundw
          case rel => exact ⟨t, pre ++ [(k, t, v)], rfl, ⟨HTK.out.2⟩, ⟨by rw [HTE.out, List.append_assoc]; exact HSTEP.out⟩, HJ3, HK3⟩
          case measure => have := HTK.out; simp [intOf]; omega
        · have HJ3 := Aside0.mk hJx3
          clear hJx3
          gi_wp2
          go_wp2
          refine bodyPost_ret (results_none rfl _ _ _) rfl ?_
          exact ⟨⟨_, rfl⟩, .inr ⟨pre ++ [(k, t, v)], ⟨pcs f T (l.drop T), by rw [HTE.out, List.append_assoc]; exact HSTEP.out⟩, HJ3.out⟩⟩
      obtain ⟨ad', hA, z1⟩ := at_int hC t hlt
      injection hA with hA
      subst hA
      obtain ⟨b2, hb2⟩ : ∃ b2, l.getD t 0 = b2 := ⟨_, rfl⟩
      have hdr : l.drop t = b2 :: l.drop (t + 1) := by rw [← hb2, List.drop_eq_getElem_cons hlt, List.getD_eq_getElem?_getD, List.getElem?_eq_getElem hlt]; rfl
      have hmem : b2 ∈ l := by rw [← hb2, List.getD_eq_getElem?_getD, List.getElem?_eq_getElem hlt]; exact List.getElem_mem _
      rw [hb2] at z1
      have HCB2 := Aside0.mk (fun W' (h : KeepS S w W') => (HE.out W' h).2.2.2 b2 hmem)
      have HTL2 := Aside0.mk hlt
      have p3 : (0 ≤ (t : Int)) = True := eq_true (by omega)
      have q3 : ((t : Int) < (l.length : Int)) = True := eq_true (by omega)
      have htb : (t : Int) + 1 ≤ 9223372036854775807 := by omega
      have HBD := Aside0.mk (KeepS.below HS.out HB.out (below_drew (Below.refl wr.heap.size wr)))
      have HZ1 := Aside0.mk z1
      obtain ⟨v2, hv2⟩ : ∃ v2, f b2 = v2 := ⟨_, rfl⟩
      rw [hv2] at HCB2
      clear hcall hC hlt hb2 hmem
      by_cases he : v2 = v
      case pos =>
        have HTN := Aside0.mk (show t + 1 + runLen f v (l.drop (t + 1)) = T by have h := HTT.out; rw [hdr, runLen, hv2, if_pos he] at h; omega)
        have qe : (v2 == v) = true := by rw [he]; exact beq_self_eq_true v
        clear hdr hv2 he
        go_upto_region 3 with fail
        go_region_held3 (fun w' => w'.cell? ⟨g1, 0, none⟩ = some (.slice (some ad) l.length c) ∧ w'.cell? ⟨g2, 0, none⟩ = some (.func (.func g) #[] fr) ∧ w'.cell? (ad.add t) = some (.int .i64 b2)) (go_keep) (first
          | ((with_reducible refine (HCB2.out _ HBD.out).mono ?_); rintro e w2 ⟨rfl, hb2⟩; have HB2 := Aside0.mk (KeepS.below HS.out HBD.out hb2); have HJ2 := Aside0.mk (HJ.out _ _ _ none HJs.out (grown_of_below (below_step (below_drew (Below.refl wr.heap.size wr)) hb2) none) (fun r e => by cases e)); obtain ⟨y1, y2, -, -⟩ := HE.out _ HB2.out; have y0 := pw_cell_below (below_step (below_drew (Below.refl wr.heap.size wr)) hb2) HZ1.out; clear hb2))
        clear x1 x2 z1 y0 y1 y2
        go_wp2
        go_roundw
        case rel => exact ⟨t + 1, by go_num, ⟨by have := HTK.out; omega, HTL2.out⟩, HTN, HJ2, HB2⟩
        case measure => have := HTL2.out; simp [intOf]; omega
      case neg =>
        have HTE := Aside0.mk (show t = T by have h := HTT.out; rw [hdr, runLen, hv2, if_neg he] at h; omega)
        have qe : (v2 == v) = false := beq_eq_false_iff_ne.mpr he
        clear hdr hv2 he
        go_upto_region 3 with fail
        go_region_held3 (fun w' => w'.cell? ⟨g1, 0, none⟩ = some (.slice (some ad) l.length c) ∧ w'.cell? ⟨g2, 0, none⟩ = some (.func (.func g) #[] fr) ∧ w'.cell? (ad.add t) = some (.int .i64 b2)) (go_keep) (first
          | ((with_reducible refine (HCB2.out _ HBD.out).mono ?_); rintro e w2 ⟨rfl, hb2⟩; have HB2 := Aside0.mk (KeepS.below HS.out HBD.out hb2); have HJD := Aside0.mk (HJ.out _ _ _ none HJs.out (grown_of_below (below_step (below_drew (Below.refl wr.heap.size wr)) hb2) none) (fun r e => by cases e)); clear HBD; have HBD := HB2; obtain ⟨y1, y2, -, -⟩ := HE.out _ HB2.out; have y0 := pw_cell_below (below_step (below_drew (Below.refl wr.heap.size wr)) hb2) HZ1.out; clear hb2))
        clear x1 x2 z1 y0 y1 y2
        go_upto_region 5 with fail
        obtain ⟨fn, tmps, assign, body, hy, hR⟩ := HY.out pre (k, t, v) _ HJD.out ⟨pcs f T (l.drop T), by rw [HTE.out, List.append_assoc]; exact HSTEP.out⟩
        have HRR := Aside0.mk hR
        clear hR
        dsimp only at hy
        refine (wpIn_wide (n := n)).1 ?_
        gi_wp2
        refine ⟨(fun h => by cases h), HRR.out.mono ?_⟩
        rintro e W3 (⟨rfl, hJ3, hk3⟩ | ⟨rfl, hJx3⟩)
        · have HJ3 := Aside0.mk hJ3
          have HK3 := Aside0.mk (KeepS.trans HBD.out hk3)
          clear hJ3 hk3
          gi_wp2
          go_wp2
          go_roundw
          case rel => exact ⟨t, pre ++ [(k, t, v)], rfl, ⟨HTK.out.2⟩, ⟨by rw [HTE.out, List.append_assoc]; exact HSTEP.out⟩, HJ3, HK3⟩
          case measure => have := HTK.out; simp [intOf]; omega
        · have HJ3 := Aside0.mk hJx3
          clear hJx3
          gi_wp2
          go_wp2
          refine bodyPost_ret (results_none rfl _ _ _) rfl ?_
          exact ⟨⟨_, rfl⟩, .inr ⟨pre ++ [(k, t, v)], ⟨pcs f T (l.drop T), by rw [HTE.out, List.append_assoc]; exact HSTEP.out⟩, HJ3.out⟩⟩
end Go.Proofs.Ytacnckneiklgpaa.Q

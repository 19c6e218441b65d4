import Derived.Test.YtlgkeaildncojaaQx0
import Derived.Test.YtlgkeaildncojaaN1
import Derived.Maps.RangeWalk
import Derived.Maps.OwnSet
import Derived.Sort.OwnSortedInts
import Derived.MapKept
namespace Go.Proofs.Ytlgkeaildncojaa.Q
open Go.RowKit Go.Proofs.YtlgkeaildncojaaW.PrintWords Go.Proofs.YtlgkeaildncojaaW.PrintLast Go.Proofs.YtlgkeaildncojaaW.PrintMore

theorem encs_map (L : List Int) : encs (Value.int .i64) L = L.map (Value.int .i64) := rfl

/-- slices.Sort of a row of the call's own. -/
theorem sort_own (v : Value) (L : List Int) (base : Nat) (ok : Nat → Prop) (w : World) (HO : Kd.R (Kd.int .i64) 3 w base ok v L) (hl : L.length < 4611686018427387904) :
    Calls Try.prog 59 #[v] w fun e w' => e = .returned (.tuple #[]) ∧ Kd.R (Kd.int .i64) 3 w' base ok v (L.mergeSort fun x y => decide (x ≤ y)) ∧ w.grownBy w' v.ownBlock := by
  have ho := Kd.own_of_R HO
  rcases ho.2 with ⟨e1, e2⟩ | ⟨g, cap, cur, e1, h1, h2, h3, h4, h5, h6⟩
  · obtain rfl : L = [] := List.length_eq_zero_iff.mp e2
    subst e1
    refine (Any.slices_Sort_int_none lays_Sort none 0 w).mono ?_
    rintro e w' ⟨rfl, rfl⟩
    refine ⟨rfl, ?_, ⟨rfl, rfl, rfl, Nat.le_refl _, fun _ _ _ => rfl⟩⟩
    simpa using HO
  · subst e1
    have hH := holds_of_blockI (ss := L) h2 (by rw [Nat.mul_one] at h6; exact h6)
    refine (Any.slices_Sort_int lays_Sort g 0 cap L w hH (Array.getElem?_eq_some_iff.1 h2).1 hl).mono ?_
    rintro e w' ⟨rfl, n, os, rfl⟩
    refine ⟨rfl, ?_, grownBy_sortedI _⟩
    have hlen : (L.mergeSort fun x y => decide (x ≤ y)).length = L.length := List.length_mergeSort _
    refine Kd.R_of_own ?_ HO.1
    have := ownsRow_sortedI (n := n) (os := os) (ss := L) (ts := L.mergeSort fun x y => decide (x ≤ y)) hlen h1 h2 h3 h4 h5
    rw [hlen]
    exact this

/-! ### the set of a list's elements, in increasing order -/
def hwith : List Int → Int → List Int
  | [], n => [n]
  | x :: t, n => if x < n then x :: hwith t n else if x = n then x :: t else n :: x :: t
def hset (l : List Int) : List Int := l.foldl hwith []

theorem mem_hwith (n y : Int) : ∀ l : List Int, y ∈ hwith l n ↔ y = n ∨ y ∈ l
  | [] => by simp [hwith]
  | x :: t => by
    unfold hwith
    split
    · rw [List.mem_cons, mem_hwith n y t, List.mem_cons]
      constructor
      · rintro (h | h | h)
        · exact .inr (.inl h)
        · exact .inl h
        · exact .inr (.inr h)
      · rintro (h | h | h)
        · exact .inr (.inl h)
        · exact .inl h
        · exact .inr (.inr h)
    · split
      · rename_i h; subst h; simp
      · simp
theorem sorted_hwith (n : Int) : ∀ l : List Int, l.Pairwise (· < ·) → (hwith l n).Pairwise (· < ·)
  | [], _ => by simp [hwith]
  | x :: t, h => by
    have hc := List.pairwise_cons.mp h
    unfold hwith
    split
    · rename_i h1
      refine List.pairwise_cons.mpr ⟨fun y hy => ?_, sorted_hwith n t hc.2⟩
      rcases (mem_hwith n y t).mp hy with rfl | hy
      · exact h1
      · exact hc.1 y hy
    · split
      · exact h
      · refine List.pairwise_cons.mpr ⟨fun y hy => ?_, h⟩
        rcases List.mem_cons.mp hy with rfl | hy
        · omega
        · have := hc.1 y hy; omega
theorem hfold_facts : ∀ (l acc : List Int), acc.Pairwise (· < ·) → (l.foldl hwith acc).Pairwise (· < ·) ∧ ∀ y, y ∈ l.foldl hwith acc ↔ y ∈ acc ∨ y ∈ l
  | [], acc, h => ⟨h, fun y => by simp⟩
  | x :: t, acc, h => by
    obtain ⟨h1, h2⟩ := hfold_facts t (hwith acc x) (sorted_hwith x acc h)
    refine ⟨h1, fun y => ?_⟩
    rw [List.foldl_cons, h2, mem_hwith, List.mem_cons]
    constructor
    · rintro ((h | h) | h)
      · exact .inr (.inl h)
      · exact .inl h
      · exact .inr (.inr h)
    · rintro (h | h | h)
      · exact .inl (.inr h)
      · exact .inl (.inl h)
      · exact .inr h
theorem hset_sorted (l : List Int) : (hset l).Pairwise (· < ·) := (hfold_facts l [] List.Pairwise.nil).1
theorem mem_hset (l : List Int) (y : Int) : y ∈ hset l ↔ y ∈ l := by
  unfold hset
  rw [(hfold_facts l [] List.Pairwise.nil).2]
  simp
/-- Lists in increasing order with the same elements are one. -/
theorem sorted_ext : ∀ (l m : List Int), l.Pairwise (· < ·) → m.Pairwise (· < ·) → (∀ y, y ∈ l ↔ y ∈ m) → l = m
  | [], [], _, _, _ => rfl
  | [], y :: m, _, _, h => by have := (h y).mpr (by simp); simp at this
  | x :: l, [], _, _, h => by have := (h x).mp (by simp); simp at this
  | x :: l, y :: m, h1, h2, h => by
    have c1 := List.pairwise_cons.mp h1
    have c2 := List.pairwise_cons.mp h2
    have e : x = y := by
      rcases List.mem_cons.mp ((h x).mp (by simp)) with e | e
      · exact e
      · rcases List.mem_cons.mp ((h y).mpr (by simp)) with e' | e'
        · exact e'.symm
        · have := c1.1 y e'; have := c2.1 x e; omega
    subst e
    rw [sorted_ext l m c1.2 c2.2 (fun z => ?_)]
    constructor
    · intro hz
      rcases List.mem_cons.mp ((h z).mp (List.mem_cons_of_mem _ hz)) with e | e
      · have := c1.1 z hz; omega
      · exact e
    · intro hz
      rcases List.mem_cons.mp ((h z).mpr (List.mem_cons_of_mem _ hz)) with e | e
      · have := c2.1 z hz; omega
      · exact e
theorem sort_nodup (L l : List Int) (hn : L.Nodup) (h : ∀ y, y ∈ L ↔ y ∈ l) : (L.mergeSort fun x y => decide (x ≤ y)) = hset l := by
  refine sorted_ext _ _ ?_ (hset_sorted l) (fun y => by rw [mem_hset, ← h, List.mem_mergeSort])
  have h1 : (L.mergeSort fun x y => decide (x ≤ y)).Pairwise (fun x y => decide (x ≤ y) = true) := List.pairwise_mergeSort (fun a b c h1 h2 => by simp at *; omega) (fun a b => by simp; omega) L
  have h2 : (L.mergeSort fun x y => decide (x ≤ y)).Nodup := (List.mergeSort_perm L _).nodup_iff.mpr hn
  exact (h1.and h2).imp (fun ⟨h1, h2⟩ => by simp at h1; omega)

/-! ### the map -/
def bval (A B : List Int) (x : Int) : Int := (if x ∈ A then 1 else 0) + (if x ∈ B then 2 else 0)

/-- Block b is the map that says in which of two lists a number is. -/
def BM (w : World) (b : Nat) (A B : List Int) : Prop := ∃ D : DataW Nat, w.ownsMap Try.prog 3 (plainElem Try.prog 80) b (A.length + B.length) D ∧ (∀ x, D.atKey (.int .i64 x) (.lit (.int .u64 0)) = .lit (.int .u64 (bval A B x))) ∧ ∀ x, Maps.has D (.int .i64 x) = decide (x ∈ A ∨ x ∈ B)

theorem bm_made (w : World) : BM (w.alloc (.map #[] 0)) w.heap.size [] [] :=
  ⟨.map [], World.ownsMap_made w Try.prog 3 _, fun x => by simp [DataW.atKey, bval], fun x => by simp [Maps.has_eq]⟩
theorem bm_kept {w w' : World} {b : Nat} {A B : List Int} {row : Option Nat} (h : BM w b A B) (hg : w.grownBy w' row) (hne : some b ≠ row) : BM w' b A B := by
  obtain ⟨D, h1, h2, h3⟩ := h
  exact ⟨D, h1.kept hg hne, h2, h3⟩
theorem bm_below {w w' : World} {b : Nat} {A B : List Int} (h : BM w b A B) (hb : Below w.heap.size w w') : BM w' b A B := by
  obtain ⟨D, h1, h2, h3⟩ := h
  exact ⟨D, h1.kept (row := none) ⟨hb.os, hb.tape, hb.output, hb.size, fun k hk _ => hb.block k hk⟩ (by simp), h2, h3⟩

theorem law3 : Maps.Keyed Try.prog 3 := Maps.int_keyed Try.underlying3

set_option maxRecDepth 100000 in
/-- 'in[x] |= 1 << k': A' and B' with x in one of them. -/
theorem bm_step (w : World) (b : Nat) (A B A' B' : List Int) (x : Int) (hx : (Lit.int .i64 x).wf = true) (h : BM w b A B) (hl : A'.length + B'.length = A.length + B.length + 1) (hm : A.length + B.length < maxLen)
    (ha : ∀ y, y ≠ x → (y ∈ A' ↔ y ∈ A)) (hb : ∀ y, y ≠ x → (y ∈ B' ↔ y ∈ B)) (hx2 : x ∈ A' ∨ x ∈ B') :
    (Instr.lookup 100 (.map (some b)) (.int .i64 x) false).run Try.prog w = .ok (.int .u64 (bval A B x)) w ∧
    ∃ w1, (Instr.mapUpdate 100 (.map (some b)) (.int .i64 x) (.int .u64 (bval A' B' x))).run Try.prog w = .ok () w1 ∧ BM w1 b A' B' ∧ w.grownBy w1 (some b) := by
  obtain ⟨D, h1, h2, h3⟩ := h
  have hk : keyOf Try.prog 3 (.int .i64 x) = some (.int .i64 x) := Maps.keyOf_int_mk Try.underlying3 hx
  have hz : (zeroValue 80).run Try.prog w = .ok (.int .u64 0) w := Try.zeroValue80 w
  obtain ⟨c, hrun, hat, hwc⟩ := h1.lookup_int law3 Try.underlying100 Try.underlying80 hz hk
  rw [h2 x] at hat
  have e : bval A B x = c := by injection hat with hat; injection hat
  have hv : (Lit.int .u64 (bval A' B' x)).wf = true := by unfold bval; split <;> split <;> decide
  obtain ⟨w1, r1, r2, r3⟩ := h1.update law3 Try.underlying100 hm hk (plainElem_int Try.underlying80 hv)
  refine ⟨by rw [e]; exact hrun, w1, r1, ⟨_, by rw [hl]; exact r2, fun y => ?_, fun y => ?_⟩, r3⟩
  · by_cases hy : y = x
    · subst hy; rw [Maps.atKey_put_same h1.isMap (k := .int .i64 y) trivial]
    · rw [Maps.atKey_put_other (by intro h; injection h with _ h; exact hy h), h2 y]
      unfold bval
      simp only [ha y hy, hb y hy]
  · by_cases hy : y = x
    · subst hy; rw [Maps.has_put_same h1.isMap (k := .int .i64 y) trivial, decide_eq_true hx2]
    · rw [Maps.has_put_other (by intro h; injection h with _ h; exact hy h), h3 y]
      simp only [ha y hy, hb y hy]

end Go.Proofs.Ytlgkeaildncojaa.Q

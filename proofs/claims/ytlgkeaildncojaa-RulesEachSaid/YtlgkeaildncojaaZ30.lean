/- Texts of this claim, merged by wip/tools/pack.py: Opn, Oc, Oe. -/
import Derived.Test.YtlgkeaildncojaaZ29
import Derived.Deep.Slices
import Derived.OpenShut
section
/- Parameters opened into kinds, whatever their type: slices, structs, numbers, nested. -/
namespace Go.Proofs.YtlgkeaildncojaaW.PrintWords
open Go.RowKit Go.ChangeShapes Go.WideShapes Go.Deep
set_option linter.unusedVariables false

/-- Whatever cells are read at type t are told by the kind d. -/
def Opn (P : Program) {α : Type} (d : Kd α) (t : TypeId) : Prop :=
  ∀ {H : Type} {enc : TypeId × Value → H} {w : World} {base fuel : Nat} {held : Bool} {cs : List Value} {x : DataW H × List MemPlace}, DataW.trod enc P w base (fun _ => true) held fuel t cs = some x → ∃ a, d.K w a cs
theorem Opn.int {P : Program} {t : TypeId} {k : IntKind} (ht : P.underlying t = some (.int k)) : Opn P (Kd.int k) t := by
  intro H enc w base fuel held cs x h
  obtain ⟨n, rfl, -, -⟩ := DataW.trod_int ht h
  exact ⟨n, rfl⟩
theorem Opn.bool {P : Program} {t : TypeId} (ht : P.underlying t = some .bool) : Opn P Kd.bool t := by
  intro H enc w base fuel held cs x h
  obtain ⟨n, rfl, -⟩ := DataW.trod_bool ht h
  exact ⟨n, rfl⟩
theorem Opn.string {P : Program} {t : TypeId} (ht : P.underlying t = some .string) : Opn P Kd.string t := by
  intro H enc w base fuel held cs x h
  obtain ⟨n, rfl, -⟩ := DataW.trod_string ht h
  exact ⟨n, rfl⟩
theorem Opn.iso {P : Program} {t : TypeId} {α β : Type} {d : Kd α} (f : β → α) (g : α → β) (hg : ∀ a, f (g a) = a) (h : Opn P d t) : Opn P (Kd.iso d f) t := by
  intro H enc w base fuel held cs x hx
  obtain ⟨a, ha⟩ := h hx
  exact ⟨g a, by show d.K w (f (g a)) cs; rw [hg]; exact ha⟩
theorem Opn.slice {P : Program} {t e : TypeId} {α : Type} {d : Kd α} (ht : P.underlying t = some (.slice e)) (he : P.cellsOf e = d.sz) (hd : Opn P d e) : Opn P (Kd.slice e d) t := by
  intro H enc w base fuel held cs x hx
  have hml : maxLen ≤ 9223372036854775807 := by decide
  rcases open_slice ht hx with ⟨rfl, -⟩ | ⟨a, len, cap, m, n, D, Pl, rfl, hb, hl, hm, hmm, -, hel⟩
  · exact ⟨[], none, 0, rfl, Nat.le_refl _, rfl, Nat.zero_le _, fun h => absurd h (Nat.lt_irrefl 0)⟩
  · simp only [if_true] at hmm
    subst hmm
    have each : ∀ i, i < len → ∃ y : List Value, ∃ z : α, w.cells? base (a.add (i * P.cellsOf e)) (P.cellsOf e) = some y ∧ d.K w z y := fun i hi => by
      obtain ⟨cs', h1, h2⟩ := hel i (by omega)
      obtain ⟨z, hz⟩ := hd h2
      exact ⟨cs', z, h1, hz⟩
    have hall : ∀ n, n ≤ len → ∃ zs : List α, zs.length = n ∧ ∀ j p, zs[j]? = some p → ∃ y, w.cells? base (a.add (j * P.cellsOf e)) (P.cellsOf e) = some y ∧ d.K w p y := by
      intro n
      induction n with
      | zero => exact fun _ => ⟨[], rfl, fun j p hj => by simp at hj⟩
      | succ n ih =>
        intro hn
        obtain ⟨zs, hl1, hz⟩ := ih (by omega)
        obtain ⟨y, z, h1, h2⟩ := each n (by omega)
        refine ⟨zs ++ [z], by simp [hl1], fun j p hj => ?_⟩
        rw [List.getElem?_append] at hj
        split at hj
        · exact hz j p hj
        · rename_i hge
          have hj0 : j = n := by
            rcases Nat.lt_or_ge n j with h3 | h3
            · rw [List.getElem?_eq_none (by simp; omega)] at hj; cases hj
            · omega
          subst hj0
          rw [hl1, Nat.sub_self] at hj
          simp only [List.getElem?_cons_zero, Option.some.injEq] at hj
          subst hj
          exact ⟨y, h1, h2⟩
    obtain ⟨zs, hzl, hz⟩ := hall len (Nat.le_refl _)
    refine ⟨zs, some a, m, by rw [hzl], by rw [hzl]; exact hl, rfl, by rw [hzl]; omega, fun _ => ⟨a, rfl, fun j p hj => ?_⟩⟩
    obtain ⟨y, h1, h2⟩ := hz j p hj
    refine ⟨y, d.K_len h2, h2, fun i u hu => ?_⟩
    obtain ⟨-, h4, h5⟩ := World.cells?_some h1
    have hi : i < P.cellsOf e := by rw [← h4]; exact (List.getElem?_eq_some_iff.mp hu).1
    have h6 := h5 i hi
    rw [hu, he, add_add] at h6
    exact h6
/-- The fields of a struct from one on. -/
def OpnF (P : Program) {α : Type} (d : Kd α) (fs : List Field) (off n : Nat) : Prop :=
  ∀ {H : Type} {enc : TypeId × Value → H} {w : World} {base fuel : Nat} {held : Bool} {cs : List Value}, cs.length = n → (∀ f ∈ fs, ∃ x, DataW.trod enc P w base (fun _ => true) held fuel f.type ((cs.drop f.offset).take (P.cellsOf f.type)) = some x) → ∃ a, d.K w a (cs.drop off)
theorem OpnF.one {P : Program} {α : Type} {d : Kd α} {f : Field} {off n : Nat} (ho : f.offset = off) (hn : off + P.cellsOf f.type = n) (h : Opn P d f.type) : OpnF P d [f] off n := by
  intro H enc w base fuel held cs hl hx
  obtain ⟨x, hx⟩ := hx f (List.mem_singleton.mpr rfl)
  rw [ho, List.take_of_length_le (by rw [List.length_drop]; omega)] at hx
  exact h hx
theorem OpnF.cons {P : Program} {α β : Type} {d : Kd α} {d2 : Kd β} {f : Field} {fs : List Field} {off m n : Nat} (ho : f.offset = off) (hn : off + P.cellsOf f.type = m) (h : Opn P d f.type) (h2 : OpnF P d2 fs m n) : OpnF P (Kd.pair d d2) (f :: fs) off n := by
  intro H enc w base fuel held cs hl hx
  obtain ⟨x, hx1⟩ := hx f List.mem_cons_self
  rw [ho] at hx1
  obtain ⟨a, ha⟩ := h hx1
  obtain ⟨b, hb⟩ := h2 hl (fun f hf => hx f (List.mem_cons_of_mem _ hf))
  refine ⟨(a, b), _, _, ?_, ha, hb⟩
  rw [← hn, ← List.drop_drop, List.take_append_drop]
theorem Opn.struct {P : Program} {t : TypeId} {α : Type} {d : Kd α} {fs : Array Field} (ht : P.underlying t = some (.struct fs)) (h : OpnF P d fs.toList 0 (P.cellsOf t)) : Opn P d t := by
  intro H enc w base fuel held cs x hx
  obtain ⟨xs, n, -, -, hl, hlen, hf⟩ := DataW.trod_struct ht hx
  refine h (fuel := n) (enc := enc) (base := base) (held := held) hl (fun f hfm => ?_)
  obtain ⟨i, hi, rfl⟩ := List.getElem_of_mem hfm
  have h1 : fs[i]? = some fs.toList[i] := by simp at hi ⊢
  rw [hf i _ h1]
  exact ⟨_, List.getElem?_eq_getElem (by rw [hlen]; simpa using hi)⟩
end Go.Proofs.YtlgkeaildncojaaW.PrintWords
namespace Go.Proofs.Ytlgkeaildncojaa.Q
end Go.Proofs.Ytlgkeaildncojaa.Q
end
section
/- A Case as a parameter. -/
namespace Go.Proofs.Ytlgkeaildncojaa.Q
open Go.RowKit Go.Proofs.YtlgkeaildncojaaW.PrintWords Go.ChangeShapes Go.WideShapes
theorem opn26 : Opn Try.prog (Kd.slice 3 (Kd.int .i64)) 26 := Opn.slice Try.underlying26 (by kernel_rfl) (Opn.int Try.underlying3)
theorem opn25 : Opn Try.prog (Kd.slice 26 (Kd.slice 3 (Kd.int .i64))) 25 := Opn.slice Try.underlying25 (by kernel_rfl) opn26
theorem opn28 : Opn Try.prog (Kd.slice 4 Kd.bool) 28 := Opn.slice Try.underlying28 (by kernel_rfl) (Opn.bool Try.underlying4)
theorem u8_wf {x : Int} (h : (Lit.int .u8 x).wf = true) : 0 ≤ x ∧ x ≤ 255 := by
  have e1 : IntKind.u8.min = 0 := by decide
  have e2 : IntKind.u8.max = 255 := by decide
  have h2 : (decide (IntKind.u8.min ≤ x) && decide (x ≤ IntKind.u8.max)) = true := h
  rw [Bool.and_eq_true, decide_eq_true_iff, decide_eq_true_iff] at h2
  omega
theorem get_lt {α : Type} {l : List α} {i n : Nat} (h : l.length = n) (hi : i < n) : ∃ x, l[i]? = some x := ⟨_, List.getElem?_eq_getElem (h.symm ▸ hi)⟩
theorem seven {α : Type} (cs : Array α) (h : cs.size = 7) : ∃ a b c d e f g, cs = #[a, b, c, d, e, f, g] := by
  match cs, h with
  | ⟨[a, b, c, d, e, f, g]⟩, _ => exact ⟨a, b, c, d, e, f, g, rfl⟩
set_option maxRecDepth 100000 in
theorem open_case {H : Type} {enc : TypeId × Value → H} {W : World} {base b0 : Nat} {held : Bool} {r : Reach} {v : Value} {d : DataW H} {ps : List MemPlace} (hval : Value.okWide Try.prog W r b0 30 v) (hd : DataW.Trod enc Try.prog W base (fun _ => true) held 30 v d ps) :
    ∃ (A0 : Option Addr) (c0 : Nat) (L : List (List Int)) (A1 : Option Addr) (c1 : Nat) (I : List Int) (o0 o1 o2 kq : Int) (A4 : Option Addr) (c4 : Nat) (M : List Bool), v = .agg #[.slice A0 L.length c0, .slice A1 I.length c1, .int .i64 o0, .int .i64 o1, .int .i64 o2, .int .u8 kq, .slice A4 M.length c4] ∧
      Kd.C (Kd.slice 3 (Kd.int .i64)) W A0 L.length L ∧ L.length ≤ c0 ∧ Kd.C (Kd.int .i64) W A1 I.length I ∧ I.length ≤ c1 ∧ Kd.C Kd.bool W A4 M.length M ∧ M.length ≤ c4 ∧ (0 ≤ kq ∧ kq ≤ 255) ∧ (IntKind.i64.min ≤ o0 ∧ o0 ≤ IntKind.i64.max) ∧ (IntKind.i64.min ≤ o1 ∧ o1 ≤ IntKind.i64.max) ∧ (IntKind.i64.min ≤ o2 ∧ o2 ≤ IntKind.i64.max) := by
  simp only [Value.okWide, Try.underlying30] at hval
  obtain ⟨cs, rfl, h2, _⟩ := hval
  obtain ⟨fuel, hf⟩ := hd
  obtain ⟨xs, n, _, _, hl, hxl, hx⟩ := DataW.trod_struct Try.underlying30 hf
  obtain ⟨y0, y1, y2, y3, y4, y5, y6, rfl⟩ := seven cs (by rw [h2]; kernel_rfl)
  have s25 : Try.prog.cellsOf 25 = 1 := by kernel_rfl
  have s26 : Try.prog.cellsOf 26 = 1 := by kernel_rfl
  have s27 : Try.prog.cellsOf 27 = 3 := by kernel_rfl
  have s28 : Try.prog.cellsOf 28 = 1 := by kernel_rfl
  have s5 : Try.prog.cellsOf 5 = 1 := by kernel_rfl
  have s3 : Try.prog.cellsOf 3 = 1 := by kernel_rfl
  obtain ⟨z0, e0⟩ := get_lt hxl (show 0 < 5 by decide)
  obtain ⟨z1, e1⟩ := get_lt hxl (show 1 < 5 by decide)
  obtain ⟨z2, e2⟩ := get_lt hxl (show 2 < 5 by decide)
  obtain ⟨z3, e3⟩ := get_lt hxl (show 3 < 5 by decide)
  obtain ⟨z4, e4⟩ := get_lt hxl (show 4 < 5 by decide)
  have f0 : DataW.trod enc Try.prog W base (fun _ => true) held n 25 (([y0, y1, y2, y3, y4, y5, y6].drop 0).take (Try.prog.cellsOf 25)) = some z0 := (hx 0 _ rfl).trans e0
  have f1 : DataW.trod enc Try.prog W base (fun _ => true) held n 26 (([y0, y1, y2, y3, y4, y5, y6].drop 1).take (Try.prog.cellsOf 26)) = some z1 := (hx 1 _ rfl).trans e1
  have f2 : DataW.trod enc Try.prog W base (fun _ => true) held n 27 (([y0, y1, y2, y3, y4, y5, y6].drop 2).take (Try.prog.cellsOf 27)) = some z2 := (hx 2 _ rfl).trans e2
  have f3 : DataW.trod enc Try.prog W base (fun _ => true) held n 5 (([y0, y1, y2, y3, y4, y5, y6].drop 5).take (Try.prog.cellsOf 5)) = some z3 := (hx 3 _ rfl).trans e3
  have f4 : DataW.trod enc Try.prog W base (fun _ => true) held n 28 (([y0, y1, y2, y3, y4, y5, y6].drop 6).take (Try.prog.cellsOf 28)) = some z4 := (hx 4 _ rfl).trans e4
  rw [s25] at f0
  rw [s26] at f1
  rw [s27] at f2
  rw [s5] at f3
  rw [s28] at f4
  obtain ⟨L, A0, c0, q0, l0, g0⟩ := opn25 f0
  obtain ⟨I, A1, c1, q1, l1, g1⟩ := opn26 f1
  obtain ⟨xs2, n2, _, _, hl2, hxl2, hx2⟩ := DataW.trod_array Try.underlying27 f2
  rw [s3] at hx2
  obtain ⟨u0, k0⟩ := get_lt hxl2 (show 0 < 3 by decide)
  obtain ⟨u1, k1⟩ := get_lt hxl2 (show 1 < 3 by decide)
  obtain ⟨u2, k2⟩ := get_lt hxl2 (show 2 < 3 by decide)
  obtain ⟨o0, p0, _, w0⟩ := DataW.trod_int Try.underlying3 ((hx2 0 (by decide)).trans k0)
  obtain ⟨o1, p1, _, w1⟩ := DataW.trod_int Try.underlying3 ((hx2 1 (by decide)).trans k1)
  obtain ⟨o2, p2, _, w2⟩ := DataW.trod_int Try.underlying3 ((hx2 2 (by decide)).trans k2)
  obtain ⟨kq, q3, _, w3⟩ := DataW.trod_int Try.underlying5 f3
  obtain ⟨M, A4, c4, q4, l4, g4⟩ := opn28 f4
  simp [Value.cells] at q0 q1 q3 q4 p0 p1 p2
  subst q0 q1 q3 q4 p0 p1 p2
  have rng : ∀ {x : Int}, (Lit.int .i64 x).wf = true → IntKind.i64.min ≤ x ∧ x ≤ IntKind.i64.max := fun h => by
    have h2 : (decide (IntKind.i64.min ≤ _) && decide (_ ≤ IntKind.i64.max)) = true := h
    rw [Bool.and_eq_true, decide_eq_true_iff, decide_eq_true_iff] at h2
    exact h2
  exact ⟨A0, c0, L, A1, c1, I, o0, o1, o2, kq, A4, c4, M, rfl, g0, l0, g1, l1, g4, l4, u8_wf w3, rng w0, rng w1, rng w2⟩
end Go.Proofs.Ytlgkeaildncojaa.Q
end
section
/- [2]uint8 and []uint8 as parameters. -/
namespace Go.Proofs.Ytlgkeaildncojaa.Q
open Go.RowKit Go.Proofs.YtlgkeaildncojaaW.PrintWords Go.ChangeShapes Go.WideShapes Go.Deep
set_option linter.unusedVariables false
/-- A slice whose elements are told, with a property of each. -/
theorem opn_sliceP {P : Program} {t e : TypeId} {α : Type} {d : Kd α} {p : α → Prop} (ht : P.underlying t = some (.slice e)) (he : P.cellsOf e = d.sz)
    (hd : ∀ {H : Type} {enc : TypeId × Value → H} {w : World} {base fuel : Nat} {held : Bool} {cs : List Value} {x : DataW H × List MemPlace}, DataW.trod enc P w base (fun _ => true) held fuel e cs = some x → ∃ a, d.K w a cs ∧ p a)
    {H : Type} {enc : TypeId × Value → H} {w : World} {base fuel : Nat} {held : Bool} {cs : List Value} {x : DataW H × List MemPlace} (hx : DataW.trod enc P w base (fun _ => true) held fuel t cs = some x) :
    ∃ (zs : List α) (A : Option Addr) (c : Nat), cs = [.slice A zs.length c] ∧ zs.length ≤ c ∧ d.C w A zs.length zs ∧ ∀ z ∈ zs, p z := by
  have hml : maxLen ≤ 9223372036854775807 := by decide
  rcases open_slice ht hx with ⟨rfl, -⟩ | ⟨a, len, cap, m, n, D, Pl, rfl, hb, hl, hm, hmm, -, hel⟩
  · exact ⟨[], none, 0, rfl, Nat.le_refl _, ⟨rfl, Nat.zero_le _, fun h => absurd h (Nat.lt_irrefl 0)⟩, fun z h => (by cases h)⟩
  · simp only [if_true] at hmm
    subst hmm
    have each : ∀ i, i < len → ∃ y : List Value, ∃ z : α, w.cells? base (a.add (i * P.cellsOf e)) (P.cellsOf e) = some y ∧ d.K w z y ∧ p z := fun i hi => by
      obtain ⟨cs', h1, h2⟩ := hel i (by omega)
      obtain ⟨z, hz, hp⟩ := hd h2
      exact ⟨cs', z, h1, hz, hp⟩
    have hall : ∀ n, n ≤ len → ∃ zs : List α, zs.length = n ∧ (∀ z ∈ zs, p z) ∧ ∀ j q, zs[j]? = some q → ∃ y, w.cells? base (a.add (j * P.cellsOf e)) (P.cellsOf e) = some y ∧ d.K w q y := by
      intro n
      induction n with
      | zero => exact fun _ => ⟨[], rfl, fun z h => (by cases h), fun j q hj => (by simp at hj)⟩
      | succ n ih =>
        intro hn
        obtain ⟨zs, hl1, hp1, hz⟩ := ih (by omega)
        obtain ⟨y, z, h1, h2, h3⟩ := each n (by omega)
        refine ⟨zs ++ [z], by simp [hl1], fun q hq => ?_, fun j q hj => ?_⟩
        · rcases List.mem_append.mp hq with hq | hq
          · exact hp1 q hq
          · rw [List.mem_singleton] at hq
            subst hq
            exact h3
        rw [List.getElem?_append] at hj
        split at hj
        · exact hz j q hj
        · rename_i hge
          have hj0 : j = n := by
            rcases Nat.lt_or_ge n j with h3 | h3
            · rw [List.getElem?_eq_none (by simp; omega)] at hj; cases hj
            · omega
          subst hj0
          rw [hl1, Nat.sub_self] at hj
          simp only [List.getElem?_cons_zero, Option.some.injEq] at hj
          subst hj
          exact ⟨y, h1, h2⟩
    obtain ⟨zs, hzl, hp, hz⟩ := hall len (Nat.le_refl _)
    refine ⟨zs, some a, m, by rw [hzl], by rw [hzl]; exact hl, ⟨rfl, by rw [hzl]; omega, fun _ => ⟨a, rfl, fun j q hj => ?_⟩⟩, hp⟩
    obtain ⟨y, h1, h2⟩ := hz j q hj
    refine ⟨y, d.K_len h2, h2, fun i u hu => ?_⟩
    obtain ⟨-, h4, h5⟩ := World.cells?_some h1
    have hi : i < P.cellsOf e := by rw [← h4]; exact (List.getElem?_eq_some_iff.mp hu).1
    have h6 := h5 i hi
    rw [hu, he, Deep.add_add] at h6
    exact h6
theorem opn5 {H : Type} {enc : TypeId × Value → H} {w : World} {base fuel : Nat} {held : Bool} {cs : List Value} {x : DataW H × List MemPlace} (h : DataW.trod enc Try.prog w base (fun _ => true) held fuel 5 cs = some x) : ∃ a, (Kd.int .u8).K w a cs ∧ (0 ≤ a ∧ a ≤ 255) := by
  obtain ⟨n, rfl, -, hw⟩ := DataW.trod_int Try.underlying5 h
  exact ⟨n, rfl, u8_wf hw⟩
set_option maxRecDepth 100000 in
theorem open_u8s {H : Type} {enc : TypeId × Value → H} {W : World} {base b0 : Nat} {held : Bool} {r : Reach} {v : Value} {d : DataW H} {ps : List MemPlace} (hval : Value.okWide Try.prog W r b0 66 v) (hd : DataW.Trod enc Try.prog W base (fun _ => true) held 66 v d ps) :
    ∃ (A : Option Addr) (c : Nat) (O : List Int), v = .slice A O.length c ∧ Kd.C (Kd.int .u8) W A O.length O ∧ O.length ≤ c ∧ ∀ x ∈ O, 0 ≤ x ∧ x ≤ 255 := by
  obtain ⟨A0, n0, c0, rfl⟩ := okWide_slice (P := Try.prog) Try.underlying66 hval
  obtain ⟨fuel, hf⟩ := hd
  obtain ⟨zs, A, c, hcs, hle, hC, hp⟩ := opn_sliceP (d := Kd.int .u8) Try.underlying66 (by kernel_rfl) opn5 hf
  simp [Value.cells] at hcs
  obtain ⟨rfl, rfl, rfl⟩ := hcs
  exact ⟨A0, c0, zs, rfl, hC, hle, hp⟩
set_option maxRecDepth 100000 in
theorem open_u82 {H : Type} {enc : TypeId × Value → H} {W : World} {base b0 : Nat} {held : Bool} {r : Reach} {v : Value} {d : DataW H} {ps : List MemPlace} (hval : Value.okWide Try.prog W r b0 65 v) (hd : DataW.Trod enc Try.prog W base (fun _ => true) held 65 v d ps) : ∃ a b, v = .agg #[.int .u8 a, .int .u8 b] ∧ (0 ≤ a ∧ a ≤ 255) ∧ (0 ≤ b ∧ b ≤ 255) := by
  simp only [Value.okWide, Try.underlying65] at hval
  obtain ⟨cs, rfl, h2, _⟩ := hval
  obtain ⟨fuel, hf⟩ := hd
  obtain ⟨xs, m, _, _, hl, hxl, hx⟩ := DataW.trod_array Try.underlying65 hf
  have hc : Try.prog.cellsOf 5 = 1 := by kernel_rfl
  rw [hc] at hx
  obtain ⟨y0, y1, rfl⟩ : ∃ a b, cs = #[a, b] := by
    have hs : cs.size = 2 := by rw [h2]; kernel_rfl
    match cs, hs with
    | ⟨[a, b]⟩, _ => exact ⟨a, b, rfl⟩
  have e0 := hx 0 (by decide)
  have e1 := hx 1 (by decide)
  rw [List.getElem?_eq_getElem (by omega)] at e0 e1
  obtain ⟨a, ha, -, wa⟩ := DataW.trod_int Try.underlying5 e0
  obtain ⟨b, hb, -, wb⟩ := DataW.trod_int Try.underlying5 e1
  simp [Value.cells] at ha hb
  exact ⟨a, b, by rw [ha, hb], u8_wf wa, u8_wf wb⟩
end Go.Proofs.Ytlgkeaildncojaa.Q
end

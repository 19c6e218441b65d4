/- Parameters opened into kinds, whatever their type: slices, structs, numbers, nested. -/
import Derived.Test.YtnnkbcgoockniaaWWords
import Derived.Test.YtnnkbcgoockniaaWLast
import Derived.Deep.Slices
import Derived.OpenShut
namespace Go.Proofs.YtnnkbcgoockniaaW.PrintWords
open Go.RowKit Go.ChangeShapes Go.WideShapes Go.Deep
set_option linter.unusedVariables false

/-- Whatever cells are read at type t are told by the kind d. -/
def Opn (P : Program) {α : Type} (d : Kd α) (t : TypeId) : Prop :=
  ∀ {H : Type} {enc : TypeId × Value → H} {w : World} {base fuel : Nat} {held : Bool} {cs : List Value} {x : DataW H × List MemPlace}, DataW.trod enc P w base (fun _ => true) held fuel t cs = some x → ∃ a, d.K w a cs
theorem Opn.int {P : Program} {t : TypeId} {k : IntKind} (ht : P.underlying t = some (.int k)) : Opn P (Kd.int k) t := by
  intro H enc w base fuel held cs x h
  obtain ⟨n, rfl, -, -⟩ := DataW.trod_int ht h
  exact ⟨n, rfl⟩
theorem Opn.bool {P : Program} {t : TypeId} (ht : P.underlying t = some .bool) : Opn P Kd.bool t := by
  intro H enc w base fuel held cs x h
  obtain ⟨n, rfl, -⟩ := DataW.trod_bool ht h
  exact ⟨n, rfl⟩
theorem Opn.string {P : Program} {t : TypeId} (ht : P.underlying t = some .string) : Opn P Kd.string t := by
  intro H enc w base fuel held cs x h
  obtain ⟨n, rfl, -⟩ := DataW.trod_string ht h
  exact ⟨n, rfl⟩
theorem Opn.iso {P : Program} {t : TypeId} {α β : Type} {d : Kd α} (f : β → α) (g : α → β) (hg : ∀ a, f (g a) = a) (h : Opn P d t) : Opn P (Kd.iso d f) t := by
  intro H enc w base fuel held cs x hx
  obtain ⟨a, ha⟩ := h hx
  exact ⟨g a, by show d.K w (f (g a)) cs; rw [hg]; exact ha⟩
theorem Opn.slice {P : Program} {t e : TypeId} {α : Type} {d : Kd α} (ht : P.underlying t = some (.slice e)) (he : P.cellsOf e = d.sz) (hd : Opn P d e) : Opn P (Kd.slice e d) t := by
  intro H enc w base fuel held cs x hx
  have hml : maxLen ≤ 9223372036854775807 := by decide
  rcases open_slice ht hx with ⟨rfl, -⟩ | ⟨a, len, cap, m, n, D, Pl, rfl, hb, hl, hm, hmm, -, hel⟩
  · exact ⟨[], none, 0, rfl, Nat.le_refl _, rfl, Nat.zero_le _, fun h => absurd h (Nat.lt_irrefl 0)⟩
  · simp only [if_true] at hmm
    subst hmm
    have each : ∀ i, i < len → ∃ y : List Value, ∃ z : α, w.cells? base (a.add (i * P.cellsOf e)) (P.cellsOf e) = some y ∧ d.K w z y := fun i hi => by
      obtain ⟨cs', h1, h2⟩ := hel i (by omega)
      obtain ⟨z, hz⟩ := hd h2
      exact ⟨cs', z, h1, hz⟩
    have hall : ∀ n, n ≤ len → ∃ zs : List α, zs.length = n ∧ ∀ j p, zs[j]? = some p → ∃ y, w.cells? base (a.add (j * P.cellsOf e)) (P.cellsOf e) = some y ∧ d.K w p y := by
      intro n
      induction n with
      | zero => exact fun _ => ⟨[], rfl, fun j p hj => by simp at hj⟩
      | succ n ih =>
        intro hn
        obtain ⟨zs, hl1, hz⟩ := ih (by omega)
        obtain ⟨y, z, h1, h2⟩ := each n (by omega)
        refine ⟨zs ++ [z], by simp [hl1], fun j p hj => ?_⟩
        rw [List.getElem?_append] at hj
        split at hj
        · exact hz j p hj
        · rename_i hge
          have hj0 : j = n := by
            rcases Nat.lt_or_ge n j with h3 | h3
            · rw [List.getElem?_eq_none (by simp; omega)] at hj; cases hj
            · omega
          subst hj0
          rw [hl1, Nat.sub_self] at hj
          simp only [List.getElem?_cons_zero, Option.some.injEq] at hj
          subst hj
          exact ⟨y, h1, h2⟩
    obtain ⟨zs, hzl, hz⟩ := hall len (Nat.le_refl _)
    refine ⟨zs, some a, m, by rw [hzl], by rw [hzl]; exact hl, rfl, by rw [hzl]; omega, fun _ => ⟨a, rfl, fun j p hj => ?_⟩⟩
    obtain ⟨y, h1, h2⟩ := hz j p hj
    refine ⟨y, d.K_len h2, h2, fun i u hu => ?_⟩
    obtain ⟨-, h4, h5⟩ := World.cells?_some h1
    have hi : i < P.cellsOf e := by rw [← h4]; exact (List.getElem?_eq_some_iff.mp hu).1
    have h6 := h5 i hi
    rw [hu, he, add_add] at h6
    exact h6
/-- The fields of a struct from one on. -/
def OpnF (P : Program) {α : Type} (d : Kd α) (fs : List Field) (off n : Nat) : Prop :=
  ∀ {H : Type} {enc : TypeId × Value → H} {w : World} {base fuel : Nat} {held : Bool} {cs : List Value}, cs.length = n → (∀ f ∈ fs, ∃ x, DataW.trod enc P w base (fun _ => true) held fuel f.type ((cs.drop f.offset).take (P.cellsOf f.type)) = some x) → ∃ a, d.K w a (cs.drop off)
theorem OpnF.one {P : Program} {α : Type} {d : Kd α} {f : Field} {off n : Nat} (ho : f.offset = off) (hn : off + P.cellsOf f.type = n) (h : Opn P d f.type) : OpnF P d [f] off n := by
  intro H enc w base fuel held cs hl hx
  obtain ⟨x, hx⟩ := hx f (List.mem_singleton.mpr rfl)
  rw [ho, List.take_of_length_le (by rw [List.length_drop]; omega)] at hx
  exact h hx
theorem OpnF.cons {P : Program} {α β : Type} {d : Kd α} {d2 : Kd β} {f : Field} {fs : List Field} {off m n : Nat} (ho : f.offset = off) (hn : off + P.cellsOf f.type = m) (h : Opn P d f.type) (h2 : OpnF P d2 fs m n) : OpnF P (Kd.pair d d2) (f :: fs) off n := by
  intro H enc w base fuel held cs hl hx
  obtain ⟨x, hx1⟩ := hx f List.mem_cons_self
  rw [ho] at hx1
  obtain ⟨a, ha⟩ := h hx1
  obtain ⟨b, hb⟩ := h2 hl (fun f hf => hx f (List.mem_cons_of_mem _ hf))
  refine ⟨(a, b), _, _, ?_, ha, hb⟩
  rw [← hn, ← List.drop_drop, List.take_append_drop]
theorem Opn.struct {P : Program} {t : TypeId} {α : Type} {d : Kd α} {fs : Array Field} (ht : P.underlying t = some (.struct fs)) (h : OpnF P d fs.toList 0 (P.cellsOf t)) : Opn P d t := by
  intro H enc w base fuel held cs x hx
  obtain ⟨xs, n, -, -, hl, hlen, hf⟩ := DataW.trod_struct ht hx
  refine h (fuel := n) (enc := enc) (base := base) (held := held) hl (fun f hfm => ?_)
  obtain ⟨i, hi, rfl⟩ := List.getElem_of_mem hfm
  have h1 : fs[i]? = some fs.toList[i] := by simp at hi ⊢
  rw [hf i _ h1]
  exact ⟨_, List.getElem?_eq_getElem (by rw [hlen]; simpa using hi)⟩
end Go.Proofs.YtnnkbcgoockniaaW.PrintWords
namespace Go.Proofs.Ytnnkbcgoockniaa.Q
end Go.Proofs.Ytnnkbcgoockniaa.Q

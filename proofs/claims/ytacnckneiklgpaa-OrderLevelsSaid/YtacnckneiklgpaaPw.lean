/- order.pieces, called, and its iterators as the law of a range over a function asks for them. Printed by genPw.py. -/
import Derived.Test.YtacnckneiklgpaaCl
import Derived.RangeFuncNested
namespace Go.Proofs.Ytacnckneiklgpaa.Q
open Go.RowKit Go.Proofs.YtacnckneiklgpaaW.PrintWords Go.Proofs.YtacnckneiklgpaaW.PrintLast Go.Proofs.YtacnckneiklgpaaW.PrintMore
set_option linter.unusedSimpArgs false
set_option linter.unusedVariables false
section
variable {β : Type} [DecidableEq β]
theorem pcs_mem (f : Int → β) : ∀ (l : List Int) (off : Nat) (x : Nat × Nat × β), x ∈ pcs f off l → off ≤ x.1 ∧ x.1 < x.2.1 ∧ x.2.1 ≤ off + l.length
  | [], off, x, h => by simp [pcs] at h
  | a :: r, off, x, h => by
    have ih := pcs_mem f r (off + 1)
    simp only [pcs] at h
    split at h
    · simp only [List.mem_singleton] at h
      subst h
      simp
    · rename_i p ps hp
      rw [hp] at ih
      have hpb := ih p List.mem_cons_self
      simp only [List.length_cons]
      split at h
      · rcases List.mem_cons.mp h with rfl | h
        · dsimp only; omega
        · have := ih x (List.mem_cons_of_mem _ h); omega
      · rcases List.mem_cons.mp h with rfl | h
        · dsimp only; omega
        · have := ih x h; omega
abbrev Pc (f : Int → β) (l : List Int) := {x : Nat × Nat × β // x ∈ pcs f 0 l}
end
theorem keepS_b {S : Nat → Prop} {n : Nat} (hS : ∀ k, S k → k < n) (W : World) (l : Nat) (o o' : Obj) (hl : n ≤ l) (h : W.heap[l]? = some o) : KeepS S W (W.putObj l o') :=
  ⟨(grownBy_putObj' W l o').size, fun k hk => (grownBy_putObj' W l o').block k (by have := hS k hk; have := blk_lt h; omega) (fun e => by injection e with e; have := hS k hk; omega)⟩

def encPI (x : Nat × Nat × Int) : Array Value := #[.agg #[.int .i64 x.1, .int .i64 x.2.1], Value.int .i64 x.2.2]
theorem piecesI_stops (n g1 g2 : Nat) (g : FuncId) (fr : Array Value) (A : Option Addr) (c : Nat) (l : List Int) (f : Int → Int) (S : Nat → Prop) (w : World) (hS : ∀ k, S k → k < w.heap.size)
    (eg : ∀ args w, (callFunc g args).run Try.prog w = .ok (.enter g args) w)
    (hE : ∀ W, KeepS S w W → W.cell? ⟨g1, 0, none⟩ = some (.slice A l.length c) ∧ W.cell? ⟨g2, 0, none⟩ = some (.func (.func g) #[] fr) ∧ (Kd.int .i64).C W A l.length l ∧ ∀ x ∈ l, Calls Try.prog g (#[.int .i64 x] ++ fr) W fun e w' => e = .returned (Value.int .i64 (f x)) ∧ Below W.heap.size W w') :
    SeqStopsK Fence.wide n Try.prog 49 #[.pointer (some ⟨g1, 0, none⟩), .pointer (some ⟨g2, 0, none⟩)] (fun x : Pc f l => encPI x.1) (KeepS S) (fun ys => ys.map (·.1) = pcs f 0 l) (fun pre => pre.map (·.1) <+: pcs f 0 l) ((pcs f 0 l).length + 1) w :=
  fun lp J Jx W hW hJ hJx hY h0 => by
    refine (piecesI1 n lp g1 g2 g fr A c l f S (fun pre W => ∃ ps : List (Pc f l), ps.map (·.1) = pre ∧ J ps W) (fun pre W => ∃ ps : List (Pc f l), ps.map (·.1) = pre ∧ Jx ps W) w W (KeepS.below hS (KeepS.refl S w) hW) hS ?_ eg hE ?_ ⟨[], rfl, h0⟩).mono ?_
    · rintro s A B row ⟨ps, e, h⟩ hg hr
      exact ⟨ps, e, hJ _ _ _ row h hg hr⟩
    · rintro pre x W1 ⟨ps, rfl, h⟩ hp
      have hx : x ∈ pcs f 0 l := hp.subset (by simp)
      have hl : ps.length < (pcs f 0 l).length + 1 := by
        have := hp.length_le
        rw [List.length_append, List.length_map, List.length_singleton] at this
        omega
      obtain ⟨fn, tmps, assign, body, h1, h2⟩ := hY ps ⟨x, hx⟩ W1 h hl
      refine ⟨fn, tmps, assign, body, h1, h2.mono ?_⟩
      rintro e W' (⟨he, hj, hk⟩ | ⟨he, hj⟩)
      · exact .inl ⟨he, ⟨_, by simp, hj⟩, hk⟩
      · exact .inr ⟨he, ⟨_, by simp, hj⟩⟩
    · rintro e W' ⟨he, (⟨ys, hy, ps, rfl, h⟩ | ⟨pre, hp, ps, rfl, h⟩)⟩
      · exact ⟨he, .inl ⟨ps, hy, h⟩⟩
      · exact ⟨he, .inr ⟨ps, hp, h⟩⟩
theorem piecesI_calls (A : Option Addr) (n c : Nat) (g : FuncId) (fr : Array Value) (w : World) : Calls Try.prog 34 #[.slice A n c, .func (.func g) #[] fr] w fun e w' =>
    e = .returned (.func (.func 49) #[] #[.pointer (some ⟨w.heap.size, 0, none⟩), .pointer (some ⟨w.heap.size + 1, 0, none⟩)]) ∧ w' = (w.alloc (.cells #[.slice A n c] 26)).alloc (.cells #[.func (.func g) #[] fr] 31) := by
  go_enter Try.func34, Try.ntmps34
  go_wp2
  go_ret
  exact ⟨rfl, rfl⟩

def encPB (x : Nat × Nat × Bool) : Array Value := #[.agg #[.int .i64 x.1, .int .i64 x.2.1], Value.bool x.2.2]
theorem piecesB_stops (n g1 g2 : Nat) (g : FuncId) (fr : Array Value) (A : Option Addr) (c : Nat) (l : List Int) (f : Int → Bool) (S : Nat → Prop) (w : World) (hS : ∀ k, S k → k < w.heap.size)
    (eg : ∀ args w, (callFunc g args).run Try.prog w = .ok (.enter g args) w)
    (hE : ∀ W, KeepS S w W → W.cell? ⟨g1, 0, none⟩ = some (.slice A l.length c) ∧ W.cell? ⟨g2, 0, none⟩ = some (.func (.func g) #[] fr) ∧ (Kd.int .i64).C W A l.length l ∧ ∀ x ∈ l, Calls Try.prog g (#[.int .i64 x] ++ fr) W fun e w' => e = .returned (Value.bool (f x)) ∧ Below W.heap.size W w') :
    SeqStopsK Fence.wide n Try.prog 50 #[.pointer (some ⟨g1, 0, none⟩), .pointer (some ⟨g2, 0, none⟩)] (fun x : Pc f l => encPB x.1) (KeepS S) (fun ys => ys.map (·.1) = pcs f 0 l) (fun pre => pre.map (·.1) <+: pcs f 0 l) ((pcs f 0 l).length + 1) w :=
  fun lp J Jx W hW hJ hJx hY h0 => by
    refine (piecesB1 n lp g1 g2 g fr A c l f S (fun pre W => ∃ ps : List (Pc f l), ps.map (·.1) = pre ∧ J ps W) (fun pre W => ∃ ps : List (Pc f l), ps.map (·.1) = pre ∧ Jx ps W) w W (KeepS.below hS (KeepS.refl S w) hW) hS ?_ eg hE ?_ ⟨[], rfl, h0⟩).mono ?_
    · rintro s A B row ⟨ps, e, h⟩ hg hr
      exact ⟨ps, e, hJ _ _ _ row h hg hr⟩
    · rintro pre x W1 ⟨ps, rfl, h⟩ hp
      have hx : x ∈ pcs f 0 l := hp.subset (by simp)
      have hl : ps.length < (pcs f 0 l).length + 1 := by
        have := hp.length_le
        rw [List.length_append, List.length_map, List.length_singleton] at this
        omega
      obtain ⟨fn, tmps, assign, body, h1, h2⟩ := hY ps ⟨x, hx⟩ W1 h hl
      refine ⟨fn, tmps, assign, body, h1, h2.mono ?_⟩
      rintro e W' (⟨he, hj, hk⟩ | ⟨he, hj⟩)
      · exact .inl ⟨he, ⟨_, by simp, hj⟩, hk⟩
      · exact .inr ⟨he, ⟨_, by simp, hj⟩⟩
    · rintro e W' ⟨he, (⟨ys, hy, ps, rfl, h⟩ | ⟨pre, hp, ps, rfl, h⟩)⟩
      · exact ⟨he, .inl ⟨ps, hy, h⟩⟩
      · exact ⟨he, .inr ⟨ps, hp, h⟩⟩
theorem piecesB_calls (A : Option Addr) (n c : Nat) (g : FuncId) (fr : Array Value) (w : World) : Calls Try.prog 37 #[.slice A n c, .func (.func g) #[] fr] w fun e w' =>
    e = .returned (.func (.func 50) #[] #[.pointer (some ⟨w.heap.size, 0, none⟩), .pointer (some ⟨w.heap.size + 1, 0, none⟩)]) ∧ w' = (w.alloc (.cells #[.slice A n c] 26)).alloc (.cells #[.func (.func g) #[] fr] 56) := by
  go_enter Try.func37, Try.ntmps37
  go_wp2
  go_ret
  exact ⟨rfl, rfl⟩
end Go.Proofs.Ytacnckneiklgpaa.Q

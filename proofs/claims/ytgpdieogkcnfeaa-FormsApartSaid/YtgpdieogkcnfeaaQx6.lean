-- Written by wip/tools/myprint.py, a program of this session that drives the kit's print.py; not a text of print.sh.
import Derived.Test.YtgpdieogkcnfeaaQx0
import Derived.Test.YtgpdieogkcnfeaaQx3
import Derived.Test.YtgpdieogkcnfeaaQx4
import Derived.Test.YtgpdieogkcnfeaaQx5
import Derived.MapKept
namespace Go.Proofs.Ytgpdieogkcnfeaa.Q
open Go.RowKit Go.Proofs.YtgpdieogkcnfeaaW.PrintWords Go.Proofs.YtgpdieogkcnfeaaW.PrintLast Go.Proofs.YtgpdieogkcnfeaaW.PrintMore
attribute [local go_sem] max2_int min2_int max_two min_two max_three min_three max_four min_four   -- for this text's walks alone
set_option linter.unusedVariables false
set_option linter.unusedSimpArgs false

/-! ### forms_Forms: function 12 (by hand) -/

def kb (a b : Bool) : Value := .agg #[.bool a, .bool b]
def hname (a b : Bool) : Int := if a then (if b then 3 else 4) else (if b then 2 else 1)
def ent (e : Bool × Bool × Nat) : MapEntry := { key := kb e.1 e.2.1, val := .int .i64 (hname e.1 e.2.1), born := e.2.2 }

theorem run_equal_kb (a b c d : Bool) (w : World) : (Op.equal 51 (kb a b) (kb c d)).run Try.prog w = .ok (a == c && b == d) w := by
  cases a <;> cases b <;> cases c <;> cases d <;> kernel_rfl

theorem run_checkKey_kb (e : Bool) (a b : Bool) (w : World) : (Instr.checkKey e 10000 51 (kb a b)).run Try.prog w = .ok () w := by
  kernel_rfl

theorem run_findAsking (a b : Bool) (w : World) : ∀ (L : List (Bool × Bool × Nat)) (i : Nat), ∃ r, (Instr.findAsking 51 (kb a b) (L.map ent) i).run Try.prog w = .ok r w ∧
    ((∀ e ∈ L, ¬ (e.1 = a ∧ e.2.1 = b)) → r = none) ∧ ((∃ e ∈ L, e.1 = a ∧ e.2.1 = b) → ∃ j, r = some (j, .int .i64 (hname a b)))
  | [], _ => ⟨none, rfl, fun _ => rfl, fun ⟨_, h, _⟩ => by cases h⟩
  | (x, y, n) :: L, i => by
    obtain ⟨r, h1, h2, h3⟩ := run_findAsking a b w L (i + 1)
    by_cases hxy : a = x ∧ b = y
    · obtain ⟨rfl, rfl⟩ := hxy
      refine ⟨some (i, .int .i64 (hname a b)), ?_, fun h => absurd ⟨rfl, rfl⟩ (h _ (.head _)), fun _ => ⟨i, rfl⟩⟩
      simp [Instr.findAsking, ent, run_equal_kb, Result.andThen]
    · have hf : (a == x && b == y) = false := by
        cases a <;> cases b <;> cases x <;> cases y <;> simp_all
      refine ⟨r, ?_, ?_, ?_⟩
      · simp only [List.map_cons, Instr.findAsking, ent, Sem.run_bind, run_equal_kb, Result.andThen, hf]
        exact h1
      · intro h
        exact h2 fun e he => h e (.tail _ he)
      · rintro ⟨e, he, e1, e2⟩
        cases he with
        | head => exact absurd ⟨e1.symm, e2.symm⟩ hxy
        | tail _ he => exact h3 ⟨e, he, e1, e2⟩

theorem run_findKey_kb (a b : Bool) (w : World) (L : List (Bool × Bool × Nat)) : ∃ r, (Instr.findKey 51 (kb a b) (L.map ent)).run Try.prog w = .ok r w ∧
    ((∀ e ∈ L, ¬ (e.1 = a ∧ e.2.1 = b)) → r = none) ∧ ((∃ e ∈ L, e.1 = a ∧ e.2.1 = b) → ∃ j, r = some (j, .int .i64 (hname a b))) := by
  cases L with
  | nil => exact ⟨none, by simp [Instr.findKey, run_underlying Try.underlying51, Result.andThen, Instr.findNow], fun _ => rfl, fun ⟨_, h, _⟩ => by cases h⟩
  | cons e L =>
    obtain ⟨r, h1, h2, h3⟩ := run_findAsking a b w (e :: L) 0
    refine ⟨r, ?_, h2, h3⟩
    simp only [Instr.findKey, Sem.run_bind, run_underlying Try.underlying51, Result.andThen, List.map_cons, Instr.findNow, ent, Instr.sameNow, kb]
    exact h1

/-- Block B is the map of the entries L. -/
def IsMap (w : World) (B : Nat) (L : List (Bool × Bool × Nat)) : Prop := ∃ c, w.heap[B]? = some (.map (L.map ent).toArray c)

theorem insert_run {w : World} {B : Nat} {L : List (Bool × Bool × Nat)} (h : IsMap w B L) (a b : Bool) (hn : ∀ e ∈ L, ¬ (e.1 = a ∧ e.2.1 = b)) :
    ∃ o n, (Instr.mapUpdate 52 (.map (some B)) (kb a b) (.int .i64 (hname a b))).run Try.prog w = .ok () { w with heap := w.heap.setIfInBounds B o } ∧ IsMap { w with heap := w.heap.setIfInBounds B o } B (L ++ [(a, b, n)]) := by
  obtain ⟨c, hb⟩ := h
  obtain ⟨r, h1, h2, _⟩ := run_findKey_kb a b w L
  obtain rfl := h2 hn
  refine ⟨.map ((L.map ent).toArray.push (ent (a, b, c))) (c + 1), c, ?_, c + 1, ?_⟩
  · simp only [Instr.mapUpdate, Sem.run_bind, run_underlying Try.underlying52, Go.MapKept.run_getObj_map hb, run_checkKey_kb, List.toList_toArray, h1, Result.andThen, Go.MapKept.run_setObj_map _ hb]
    rfl
  · rw [(Go.MapKept.heap_set hb).1]
    simp

theorem lookup_run {w : World} {B : Nat} {L : List (Bool × Bool × Nat)} (h : IsMap w B L) (a b : Bool) (hn : ∃ e ∈ L, e.1 = a ∧ e.2.1 = b) :
    (Instr.lookup 52 (.map (some B)) (kb a b) false).run Try.prog w = .ok (.int .i64 (hname a b)) w := by
  obtain ⟨c, hb⟩ := h
  obtain ⟨r, h1, _, h3⟩ := run_findKey_kb a b w L
  obtain ⟨j, rfl⟩ := h3 hn
  simp [Instr.lookup, run_underlying Try.underlying52, Go.MapKept.run_getObj_map hb, run_checkKey_kb, h1, Result.andThen]

def forms_Forms.l0 : Nat → ByteArray → List (S29) → List Int → Int → Option (List Int)
  | 0, _, _, _, _ => none
  | k + 1, s, l, out, i => if i < (l.length : Int) then (if out.length < 17592186044416 then ((forms_reader_letter.f k s l i).bind fun p => (if p.1 = true then ((forms_reader_on.f k s l (wrap64 (i - 1))).bind fun a => ((forms_reader_on.f k s l i).bind fun b => (forms_Forms.l0 k s l (out ++ [hname a b]) (wrap64 (i + 1))))) else (forms_Forms.l0 k s l (out ++ [0]) (wrap64 (i + 1))))) else none) else (some out)
def forms_Forms.f (k : Nat) (a0 : ByteArray) : Option (List Int) := (cluster_Split.f a0).bind fun l => (forms_Forms.l0 k a0 l ([] : List Int) 0)

theorem forms_Forms.mono_l : ∀ k, ∀ y0 y1 y2 y3, LeO (forms_Forms.l0 k y0 y1 y2 y3) (forms_Forms.l0 (k + 1) y0 y1 y2 y3)
  | 0 => fun _ _ _ _ r h => by simp [forms_Forms.l0] at h
  | k + 1 => by
    have ih0 := forms_Forms.mono_l k
    intro y0 y1 y2 y3
    unfold forms_Forms.l0
    repeat' first
      | (with_reducible exact ih0 _ _ _ _)
      | (with_reducible exact forms_reader_letter.mono _ _ _ _)
      | (with_reducible exact forms_reader_on.mono _ _ _ _)
      | (with_reducible exact LeO.refl _)
      | (with_reducible exact LeO.none _)
      | (with_reducible refine LeO.ite ?_ ?_)
      | (with_reducible refine LeO.bind ?_ (fun _ => ?_))
theorem forms_Forms.mono : ∀ a0 k, LeO (forms_Forms.f k a0) (forms_Forms.f (k + 1) a0) := by
  intro a0 k
  have ih0 := forms_Forms.mono_l k
  unfold forms_Forms.f
  repeat' first
      | (with_reducible exact ih0 _ _ _ _)
      | (with_reducible exact LeO.refl _)
      | (with_reducible refine LeO.bind ?_ (fun _ => ?_))

def ixb (x y : Bool) : Nat := if x then (if y then 6 else 8) else (if y then 4 else 2)
theorem run_insert_op {a : Act} {w w1 : World} {m kk : Value} {t1 t2 : Tmp} {v : Value} {T : TypeId} {o : Oper} (h1 : Act.eval a (.tmp t1) = m) (h2 : Act.eval a (.tmp t2) = kk) (ho : o.op = .insert T (.tmp t1) (.tmp t2) (.const v))
    (hr : (Instr.mapUpdate T m kk v).run Try.prog w = .ok () w1) : (execOp a.eval o).run Try.prog w = .ok .skip w1 := by
  have e : execOp a.eval o = (do Instr.mapUpdate T m kk v; pure .skip) := by
    unfold execOp
    rw [ho]
    simp only [h1, h2]
    rfl
  rw [e]
  simp only [Sem.run_bind, hr, Result.andThen]
  rfl
theorem marks_up {b : Nat → Bool} {i j : Nat} (h : b j = true) : up b i j = true := by
  unfold up
  split <;> simp_all
theorem marks_dn {b : Nat → Bool} {i j : Nat} (hij : j ≠ i) (h : up b i j = true) : b j = true := by
  rw [up_ne hij] at h
  exact h
theorem ixb_inj {x y x' y' : Bool} (h : ixb x y = ixb x' y') : x = x' ∧ y = y' := by
  revert h; cases x <;> cases y <;> cases x' <;> cases y' <;> decide
theorem marks_ins {b : Nat → Bool} {i n : Nat} {x y : Bool} {L : List (Bool × Bool × Nat)} (h : ∀ e ∈ L, b (ixb e.1 e.2.1) = true) (hi : ixb x y = i) : ∀ e ∈ L ++ [(x, y, n)], up b i (ixb e.1 e.2.1) = true := by
  intro e he
  rcases List.mem_append.1 he with he | he
  · exact marks_up (h e he)
  · obtain rfl := List.mem_singleton.1 he
    show up b i (ixb x y) = true
    rw [hi, up_self]
theorem marks_has {b : Nat → Bool} {i n : Nat} {x y : Bool} {L : List (Bool × Bool × Nat)} (h : ∀ p q, b (ixb p q) = true → ∃ e ∈ L, e.1 = p ∧ e.2.1 = q) (hi : ixb x y = i) :
    ∀ p q, up b i (ixb p q) = true → ∃ e ∈ L ++ [(x, y, n)], e.1 = p ∧ e.2.1 = q := by
  intro p q hpq
  by_cases hx : p = x ∧ q = y
  · exact ⟨(x, y, n), List.mem_append_right _ (.head _), hx.1.symm, hx.2.symm⟩
  · obtain ⟨e, he, h1⟩ := h p q (marks_dn (fun h => hx (ixb_inj (h.trans hi.symm))) hpq)
    exact ⟨e, List.mem_append_left _ he, h1⟩
theorem below_put {B : Nat} {w : World} {B' : Nat} (h : B ≤ B') (o : Obj) : Below B w { w with heap := w.heap.setIfInBounds B' o } :=
  ⟨rfl, rfl, rfl, by simp, fun k hk => by simp [Array.getElem?_setIfInBounds]; omega⟩
theorem ismap_drew {w : World} {B : Nat} {L : List (Bool × Bool × Nat)} (h : IsMap w B L) : IsMap w.drew B L := h
theorem ismap_drewN {w : World} {B : Nat} {L : List (Bool × Bool × Nat)} (h : IsMap w B L) (n : Nat) : IsMap (w.drewN n) B L := h
theorem ismap_lt {w : World} {B : Nat} {L : List (Bool × Bool × Nat)} (h : IsMap w B L) : B < w.heap.size := by
  obtain ⟨c, h⟩ := h
  exact (Array.getElem?_eq_some_iff.1 h).1
theorem ismap_alloc {w : World} {B : Nat} {L : List (Bool × Bool × Nat)} (h : IsMap w B L) (o : Obj) : IsMap (w.alloc o) B L := by
  have hl := ismap_lt h
  obtain ⟨c, h⟩ := h
  exact ⟨c, (Below.heap_alloc w o B hl).trans h⟩
theorem ismap_below {w w' : World} {B : Nat} {L : List (Bool × Bool × Nat)} (h : IsMap w B L) (hb : Below w.heap.size w w') : IsMap w' B L := by
  have hl := ismap_lt h
  obtain ⟨c, h⟩ := h
  exact ⟨c, (hb.block B hl).trans h⟩
theorem ismap_grown {w w' : World} {B : Nat} {L : List (Bool × Bool × Nat)} {v : Value} {e : TypeId} (h : IsMap w B L) (ht : ∀ k, v.ownBlock = some k → ∃ cells, w.heap[k]? = some (.cells cells e (0, 0))) (hg : w.grownBy w' v.ownBlock) : IsMap w' B L := by
  have hl := ismap_lt h
  obtain ⟨c, h⟩ := h
  refine ⟨c, (hg.block B hl (fun he => ?_)).trans h⟩
  obtain ⟨cells, hc⟩ := ht B he.symm
  rw [h] at hc
  cases hc
theorem blk_grown_ty {w w' : World} {g : Nat} {cs : Array Value} {t : TypeId} {v : Value} {e : TypeId} (h : w.heap[g]? = some (.cells cs t (0, 0))) (ht : ∀ k, v.ownBlock = some k → ∃ cells, w.heap[k]? = some (.cells cells e (0, 0))) (hne : t ≠ e) (hg : w.grownBy w' v.ownBlock) :
    w'.heap[g]? = some (.cells cs t (0, 0)) := by
  refine (hg.block g (Array.getElem?_eq_some_iff.1 h).1 (fun he => ?_)).trans h
  obtain ⟨cells, hc⟩ := ht g he.symm
  rw [h] at hc
  injection hc with hc
  injection hc with _ hc
  exact hne hc
theorem blk_below0 {w w' : World} {g : Nat} {o : Obj} (h : w.heap[g]? = some o) (hb : Below w.heap.size w w') : w'.heap[g]? = some o := (hb.block g (Array.getElem?_eq_some_iff.1 h).1).trans h
theorem wpList_lookup_kb {w : World} {ops : Array Oper} {rest : List Oper} {o : Oper} {a : Act} {Q : Exit → Act → World → Prop} (hg : o.guard = none) (m x : Operand) (hop : o.op = Op.lookup 52 m x false)
    {B : Nat} (hm : a.eval m = .map (some B)) {L : List (Bool × Bool × Nat)} (hM : IsMap w B L) {p q : Bool} (hx : a.eval x = kb p q) (hn : ∃ e ∈ L, e.1 = p ∧ e.2.1 = q) {nm : Int} (hnm : nm = hname p q)
    (hK : wpList Try.prog ops Q rest (a.put o.dst (.int .i64 nm)) w) : wpList Try.prog ops Q (o :: rest) a w := by
  subst hnm
  refine wpList_plain hg fun K' hK' => ?_
  unfold Oper.wp
  simp [execOp, hop, hm, hx, lookup_run hM p q hn, Result.andThen]
  exact hK' _ _ hK

def forms_Forms.T2 : Bool × List (List Nat × List Nat) := (true, [([], []), ([], []), ([0, 1], [0, 1]), ([], []), ([0, 3], [0, 3]), ([], []), ([0, 5], [0, 5]), ([], []), ([0, 7], [0, 7]), ([0, 1, 2, 3, 4, 5, 6, 7, 8], [0]), ([9, 0, 1, 2, 3, 4, 5, 6, 7, 8, 9], [9])])
def forms_Forms.B2 : List Nat := [0, 0, 3, 0, 9, 0, 33, 0, 129, 511, 1023]
theorem forms_Forms.tab2 : rtab .any (opsOf Try.f12 2) = forms_Forms.T2 := by kernel_rfl
theorem forms_Forms.bits2 : waitsOk forms_Forms.T2.2 forms_Forms.B2 = true := by kernel_rfl
set_option maxHeartbeats 8000000 in
set_option maxRecDepth 100000 in
theorem forms_Forms.calls (k : Nat) (a0 : ByteArray) (r : List Int) (w : World) (h : forms_Forms.f k a0 = some r) :
    Calls Try.prog 12 #[.string a0] w fun e w' => ∃ v0_ : Value, e = .returned (v0_) ∧ Kd.R (Kd.int .i64) 3 w' w.heap.size (fun _ => True) v0_ r ∧ Below w.heap.size w w' := by
  have hu_s := Try.underlying29
  have hu_r := Try.underlying50
  have HB := Aside0.mk (Below.refl w.heap.size w)
  have H : ((cluster_Split.f a0).bind fun l => (forms_Forms.l0 k a0 l ([] : List Int) 0)) = some r := h
  clear h
  replace H := Option.bind_eq_some_iff.mp H
  obtain ⟨t1, A20, H⟩ := H
  replace H : (forms_Forms.l0 k a0 t1 ([] : List Int) 0) = some r := H
  have A2 := Aside0.mk A20
  clear A20
  have H' := Aside0.mk H
  clear H
  have hmm := @run_makeMap Try.prog
  go_enter Try.func12, Try.ntmps12
  go_upto_region 2 with (go_at_call 14; (with_reducible refine (cluster_Split.calls a0 t1 _ A2.out).mono ?_); rintro e w3 ⟨v217, rfl, ho0, hb⟩; have n0_ := Aside0.mk (Kd.R_lower ho0 (below_size HB.out)); have n1_ := Aside0.mk (below_step HB.out hb); clear HB; have HO := n0_; have HB := n1_; clear n0_ n1_ hb ho0; obtain ⟨Ao, co, eo⟩ := Kd.R_slice HO.out; subst eo)
  have BK0 := Aside0.mk (heap_alloc_new w3 (Obj.cells #[Value.string a0, Value.slice Ao t1.length co] 50))
  have HO0 := Aside0.mk (Kd.R_alloc HO.out (Obj.cells #[Value.string a0, Value.slice Ao t1.length co] 50))
  have HB0 := Aside0.mk (HB.out.alloc HB.out.size (Obj.cells #[Value.string a0, Value.slice Ao t1.length co] 50))
  have HG := Aside0.mk HB.out.size
  have HL : Aside0 (w3.heap.size < (w3.alloc (Obj.cells #[Value.string a0, Value.slice Ao t1.length co] 50)).heap.size) := ⟨by simp⟩
  clear HO HB
  generalize hwA : w3.alloc (Obj.cells #[Value.string a0, Value.slice Ao t1.length co] 50) = wA at *
  generalize hgb : w3.heap.size = gb at *
  clear hwA hgb
  go_cut [4] (fun v4 wc => ∃ B, v4 = .map (some B) ∧ Aside0 (∃ L, IsMap wc B L ∧ ∀ a b, ∃ e ∈ L, e.1 = a ∧ e.2.1 = b) ∧ Aside0 (w.heap.size ≤ B) ∧ Aside0 (Kd.R k29 29 wc w.heap.size (fun _ => True) (.slice Ao t1.length co) t1) ∧ Aside0 (wc.heap[gb]? = some (.cells #[.string a0, .slice Ao t1.length co] 50 (0, 0))) ∧ Aside0 (Below w.heap.size w wc))
  case first =>
    refine start_ (n := 11) (S := fun w' => True) (ds := []) #[false, false, false, false, false, false, false, false, false, false, false] (by kernel_rfl) rfl rfl trivial (fun hHeld => ?_); refine with_tabW forms_Forms.tab2 forms_Forms.bits2 (fun HT_ HW_ => ?_)
    have BKd : Aside0 (wA.drew.heap[gb]? = some (.cells #[.string a0, .slice Ao t1.length co] 50 (0, 0))) := ⟨BK0.out⟩
    have HOd := Aside0.mk (Kd.R_drew HO0.out)
    have HBd := Aside0.mk HB0.out.drew
    have HLd : Aside0 (gb < wA.drew.heap.size) := ⟨HL.out⟩
    clear BK0 HO0 HB0 HL
    generalize wA.drew = w15 at *
    refine pure_ (i := 1) (N := some 14) (v := ?_) (a' := ?_) #[false, true, false, false, false, false, false, false, false, false, false] rfl rfl (any_of HT_.out (by kernel_rfl)) (fun _ _ _ h => h) (Or.inl ⟨by rfl, ?_⟩) ?_ ?_
    rotate_left
    · intro w'
      go_simp
      with_reducible rfl
    rotate_left
    · simp only [Act.put, List.setIfInBounds_toArray, List.set_cons_zero, List.set_cons_succ, i64_w, i32_w]
      rfl
    refine pure_ (i := 3) (N := some 15) (v := ?_) (a' := ?_) #[false, true, false, true, false, false, false, false, false, false, false] rfl rfl (any_of HT_.out (by kernel_rfl)) (fun _ _ _ h => h) (Or.inl ⟨by rfl, ?_⟩) ?_ ?_
    rotate_left
    · intro w'
      go_simp
      with_reducible rfl
    rotate_left
    · simp only [Act.put, List.setIfInBounds_toArray, List.set_cons_zero, List.set_cons_succ, i64_w, i32_w]
      rfl
    refine pure_ (i := 5) (N := some 16) (v := ?_) (a' := ?_) #[false, true, false, true, false, true, false, false, false, false, false] rfl rfl (any_of HT_.out (by kernel_rfl)) (fun _ _ _ h => h) (Or.inl ⟨by rfl, ?_⟩) ?_ ?_
    rotate_left
    · intro w'
      go_simp
      with_reducible rfl
    rotate_left
    · simp only [Act.put, List.setIfInBounds_toArray, List.set_cons_zero, List.set_cons_succ, i64_w, i32_w]
      rfl
    refine pure_ (i := 7) (N := some 17) (v := ?_) (a' := ?_) #[false, true, false, true, false, true, false, true, false, false, false] rfl rfl (any_of HT_.out (by kernel_rfl)) (fun _ _ _ h => h) (Or.inl ⟨by rfl, ?_⟩) ?_ ?_
    rotate_left
    · intro w'
      go_simp
      with_reducible rfl
    rotate_left
    · simp only [Act.put, List.setIfInBounds_toArray, List.set_cons_zero, List.set_cons_succ, i64_w, i32_w]
      rfl
    refine one_ (i := 0) (N := some 13) #[true, true, false, true, false, true, false, true, false, false, false] rfl rfl (one_of HT_.out (by kernel_rfl)) (by decide) (fun K hK => ?_)
    refine value_ (w1 := w15.alloc (.map #[] 0)) (v := .map (some w15.heap.size)) (by rfl) rfl ?_ ?_
    · go_simp
    refine hK.out _ _ trivial (fun hHeld => ?_)
    clear hK K
    simp only [Act.put, List.setIfInBounds_toArray, List.set_cons_zero, List.set_cons_succ]
    have hM0 : IsMap (w15.alloc (.map #[] 0)) w15.heap.size [] := ⟨0, heap_alloc_new w15 _⟩
    have hb0 : Below w15.heap.size w15 (w15.alloc (.map #[] 0)) := (Below.refl _ _).alloc (Nat.le_refl _) _
    have hgw : w.heap.size ≤ w15.heap.size := HBd.out.size
    generalize hB15 : w15.heap.size = B at *
    generalize w15.alloc (.map #[] 0) = w16 at *
    refine inv_at [2, 4, 6, 8, 9, 10] (fun a0_ b a w' => a = putSel a0_ b [(9, 18, .map (some B)), (10, 4, .map (some B))] ∧ ∃ L, IsMap w' B L ∧ (∀ e ∈ L, b (ixb e.1 e.2.1) = true) ∧ (∀ x y, b (ixb x y) = true → ∃ e ∈ L, e.1 = x ∧ e.2.1 = y) ∧ Below B w16 w') HT_.out HW_.out (by kernel_rfl) (by kernel_rfl) ?_ ?_ ?_
    · exact ⟨by simp only [putSel, Bool.false_eq_true, if_false], [], hM0, (fun e h => by cases h), (fun x y h => by cases h), Below.refl _ _⟩
    · clear hM0
      refine steps_cons ?_ ?_
      · rintro b a w' ⟨ha, L, hM, hl1, hl2, hbw⟩ hb_ hon hoff
        refine ⟨_, rfl, fun K hK => ?_⟩
        have e13 : a.tmps[13]? = some (.map (some B)) := by rw [ha]; exact (putSel_off rfl).trans rfl
        have e14 : a.tmps[14]? = some (kb false false) := by rw [ha]; exact (putSel_off rfl).trans rfl
        obtain ⟨o, n, hrun, hM'⟩ := insert_run hM false false (fun e he h => by have := hl1 e he; rw [h.1, h.2] at this; exact absurd (hb_.symm.trans this) (by decide))
        refine skip_ (w1 := { w' with heap := w'.heap.setIfInBounds B o }) (by rfl) rfl ?_ ?_
        · have ev : Act.eval a (.tmp 13) = .map (some B) ∧ Act.eval a (.tmp 14) = kb false false := ⟨by simp only [Act.eval, Array.getD_eq_getD_getElem?, e13, Option.getD_some], by simp only [Act.eval, Array.getD_eq_getD_getElem?, e14, Option.getD_some]⟩
          exact run_insert_op ev.1 ev.2 rfl hrun
        refine hK.out _ _ ⟨by rw [ha]; exact putSel_none (v := undef) rfl, L ++ [(false, false, n)], hM', ?_, ?_, ?_⟩
        · exact marks_ins hl1 rfl
        · exact marks_has hl2 rfl
        · exact hbw.trans (below_put (Nat.le_refl _) o)
      refine steps_cons ?_ ?_
      · rintro b a w' ⟨ha, L, hM, hl1, hl2, hbw⟩ hb_ hon hoff
        refine ⟨_, rfl, fun K hK => ?_⟩
        have e13 : a.tmps[13]? = some (.map (some B)) := by rw [ha]; exact (putSel_off rfl).trans rfl
        have e15 : a.tmps[15]? = some (kb false true) := by rw [ha]; exact (putSel_off rfl).trans rfl
        obtain ⟨o, n, hrun, hM'⟩ := insert_run hM false true (fun e he h => by have := hl1 e he; rw [h.1, h.2] at this; exact absurd (hb_.symm.trans this) (by decide))
        refine skip_ (w1 := { w' with heap := w'.heap.setIfInBounds B o }) (by rfl) rfl ?_ ?_
        · have ev : Act.eval a (.tmp 13) = .map (some B) ∧ Act.eval a (.tmp 15) = kb false true := ⟨by simp only [Act.eval, Array.getD_eq_getD_getElem?, e13, Option.getD_some], by simp only [Act.eval, Array.getD_eq_getD_getElem?, e15, Option.getD_some]⟩
          exact run_insert_op ev.1 ev.2 rfl hrun
        refine hK.out _ _ ⟨by rw [ha]; exact putSel_none (v := undef) rfl, L ++ [(false, true, n)], hM', ?_, ?_, ?_⟩
        · exact marks_ins hl1 rfl
        · exact marks_has hl2 rfl
        · exact hbw.trans (below_put (Nat.le_refl _) o)
      refine steps_cons ?_ ?_
      · rintro b a w' ⟨ha, L, hM, hl1, hl2, hbw⟩ hb_ hon hoff
        refine ⟨_, rfl, fun K hK => ?_⟩
        have e13 : a.tmps[13]? = some (.map (some B)) := by rw [ha]; exact (putSel_off rfl).trans rfl
        have e16 : a.tmps[16]? = some (kb true true) := by rw [ha]; exact (putSel_off rfl).trans rfl
        obtain ⟨o, n, hrun, hM'⟩ := insert_run hM true true (fun e he h => by have := hl1 e he; rw [h.1, h.2] at this; exact absurd (hb_.symm.trans this) (by decide))
        refine skip_ (w1 := { w' with heap := w'.heap.setIfInBounds B o }) (by rfl) rfl ?_ ?_
        · have ev : Act.eval a (.tmp 13) = .map (some B) ∧ Act.eval a (.tmp 16) = kb true true := ⟨by simp only [Act.eval, Array.getD_eq_getD_getElem?, e13, Option.getD_some], by simp only [Act.eval, Array.getD_eq_getD_getElem?, e16, Option.getD_some]⟩
          exact run_insert_op ev.1 ev.2 rfl hrun
        refine hK.out _ _ ⟨by rw [ha]; exact putSel_none (v := undef) rfl, L ++ [(true, true, n)], hM', ?_, ?_, ?_⟩
        · exact marks_ins hl1 rfl
        · exact marks_has hl2 rfl
        · exact hbw.trans (below_put (Nat.le_refl _) o)
      refine steps_cons ?_ ?_
      · rintro b a w' ⟨ha, L, hM, hl1, hl2, hbw⟩ hb_ hon hoff
        refine ⟨_, rfl, fun K hK => ?_⟩
        have e13 : a.tmps[13]? = some (.map (some B)) := by rw [ha]; exact (putSel_off rfl).trans rfl
        have e17 : a.tmps[17]? = some (kb true false) := by rw [ha]; exact (putSel_off rfl).trans rfl
        obtain ⟨o, n, hrun, hM'⟩ := insert_run hM true false (fun e he h => by have := hl1 e he; rw [h.1, h.2] at this; exact absurd (hb_.symm.trans this) (by decide))
        refine skip_ (w1 := { w' with heap := w'.heap.setIfInBounds B o }) (by rfl) rfl ?_ ?_
        · have ev : Act.eval a (.tmp 13) = .map (some B) ∧ Act.eval a (.tmp 17) = kb true false := ⟨by simp only [Act.eval, Array.getD_eq_getD_getElem?, e13, Option.getD_some], by simp only [Act.eval, Array.getD_eq_getD_getElem?, e17, Option.getD_some]⟩
          exact run_insert_op ev.1 ev.2 rfl hrun
        refine hK.out _ _ ⟨by rw [ha]; exact putSel_none (v := undef) rfl, L ++ [(true, false, n)], hM', ?_, ?_, ?_⟩
        · exact marks_ins hl1 rfl
        · exact marks_has hl2 rfl
        · exact hbw.trans (below_put (Nat.le_refl _) o)
      refine steps_cons ?_ ?_
      · rintro b a w' ⟨ha, L, hM, hl1, hl2, hbw⟩ hb_ hon hoff
        refine ⟨_, rfl, fun K hK => ?_⟩
        have e13 : a.tmps[13]? = some (.map (some B)) := by rw [ha]; exact (putSel_off rfl).trans rfl
        replace ha := Aside0.mk ha
        refine value_ (w1 := w') (v := .map (some B)) (by rfl) rfl ?_ ?_
        · go_simp
          try simp only [Act.eval, Array.getD_eq_getD_getElem?, e13, Option.getD_some]
        refine hK.out _ _ ⟨by rw [ha.out]; exact putSel_upk 0 hb_ rfl rfl rfl, L, hM, ?_, ?_, hbw⟩
        · exact fun e he => marks_up (hl1 e he)
        · exact fun x y h => hl2 x y (marks_dn (by cases x <;> cases y <;> decide) h)
      refine steps_cons ?_ ?_
      · rintro b a w' ⟨ha, L, hM, hl1, hl2, hbw⟩ hb_ hon hoff
        refine ⟨_, rfl, fun K hK => ?_⟩
        have e18 : a.tmps[18]? = some (.map (some B)) := by rw [ha]; exact putSel_on (e := (9, 18, .map (some B))) 0 rfl rfl (hon 9 (by kernel_rfl)) rfl
        replace ha := Aside0.mk ha
        refine value_ (w1 := w') (v := .map (some B)) (by rfl) rfl ?_ ?_
        · go_simp
          try simp only [Act.eval, Array.getD_eq_getD_getElem?, e18, Option.getD_some]
        refine hK.out _ _ ⟨by rw [ha.out]; exact putSel_upk 1 hb_ rfl rfl rfl, L, hM, ?_, ?_, hbw⟩
        · exact fun e he => marks_up (hl1 e he)
        · exact fun x y h => hl2 x y (marks_dn (by cases x <;> cases y <;> decide) h)
      exact steps_nil
    · rintro b a w' hall ⟨ha, L, hM, hl1, hl2, hbw⟩
      have hb9_ := hall 9 (by kernel_rfl)
      have hb10_ := hall 10 (by kernel_rfl)
      subst ha
      simp only [putSel, hb9_, hb10_, if_true, Act.put, List.setIfInBounds_toArray, List.set_cons_zero, List.set_cons_succ]
      have hall2 : ∀ x y, ∃ e ∈ L, e.1 = x ∧ e.2.1 = y := fun x y => hl2 x y (hall _ (by cases x <;> cases y <;> kernel_rfl))
      have hbb : Below B w15 w' := hb0.trans hbw
      have HO1 := Aside0.mk (Kd.R_below (Kd.R_elderB HOd.out B (Nat.le_of_eq hB15)) (by rw [hB15]; exact hbb))
      have HB1 := Aside0.mk (HBd.out.trans (hbb.mono hgw))
      have BK1 : Aside0 (w'.heap[gb]? = some (.cells #[.string a0, .slice Ao t1.length co] 50 (0, 0))) := ⟨(hbb.block gb HLd.out).trans BKd.out⟩
      go_wp2
      go_meet
      case rel => exact ⟨B, rfl, ⟨L, hM, hall2⟩, ⟨hgw⟩, ⟨Kd.R_mono HO1.out (fun _ _ => trivial)⟩, BK1, HB1⟩
  case rest =>
    obtain ⟨B, rfl, HMx, HGB, HO_3, BK1, HB⟩ := hcut
    obtain ⟨L, hM0, hall0⟩ := HMx.out
    have HM := Aside0.mk hM0
    have HALL := Aside0.mk hall0
    clear hM0 hall0 HMx HL HB0 HO0 BK0
    have hc0 : wc.cell? ⟨gb, 0, none⟩ = some (.string a0) := (blk_cell BK1.out 0).trans rfl
    have hc1 : wc.cell? ⟨gb, 1, none⟩ = some (.slice Ao t1.length co) := (blk_cell BK1.out 1).trans rfl
    have hf0 := blk_frozen BK1.out 0
    have hf1 := blk_frozen BK1.out 1
    go_wp2
    go_loopg [2, 24] k (fun kq v2 v24 w' => ∃ (x2 : List Int) (x24 : Int), v24 = .int .i64 x24 ∧ Aside0 (forms_Forms.l0 kq a0 t1 x2 x24 = some r) ∧ Aside0 (kq ≤ k) ∧ Aside0 (IsMap w' B L) ∧ Aside0 (Kd.R k29 29 w' w.heap.size (fun _ => True) (.slice Ao t1.length co) t1) ∧ Aside0 (Kd.R (Kd.int .i64) 3 w' w.heap.size (fun _ => True) v2 x2) ∧ Aside0 (w'.heap[gb]? = some (.cells #[.string a0, .slice Ao t1.length co] 50 (0, 0))) ∧ Aside0 (Below w.heap.size w w'))
    case atStart => exact ⟨[], 0, rfl, H', ⟨Nat.le_refl _⟩, ⟨by (with_reducible repeat (first | refine ismap_drewN ?_ _ | refine ismap_drew ?_ | refine ismap_alloc ?_ _)); exact HM.out⟩, ⟨by (with_reducible repeat (first | apply Kd.R_alloc | apply Kd.R_drewN | apply Kd.R_drew)); exact HO_3.out⟩, ⟨Kd.R_nil _ _ _ _ _⟩, ⟨by (with_reducible repeat (first | refine blk_drewN ?_ _ | refine blk_drew ?_ | refine blk_alloc ?_ _)); exact BK1.out⟩, ⟨by repeat (first | (with_reducible first | exact HB.out | apply below_alloc | apply pw_below_drewN | apply below_drew1) | exact HB.out)⟩⟩
    case round =>
      clear H' hc0 hc1 hf0 hf1 HM HO_3 BK1 HB
      obtain ⟨x2, x24, rfl, HA, HK1, HM, HO_3, HO_4, BK1, HB⟩ := hrel
      cases gk with
      | zero => exact absurd HA.out (by simp [forms_Forms.l0])
      | succ k1 =>
        have H := HA.out
        clear HA
        simp only [forms_Forms.l0] at H
        have hc0 : wr.cell? ⟨gb, 0, none⟩ = some (.string a0) := (blk_cell BK1.out 0).trans rfl
        have hc1 : wr.cell? ⟨gb, 1, none⟩ = some (.slice Ao t1.length co) := (blk_cell BK1.out 1).trans rfl
        have hf0 := blk_frozen BK1.out 0
        have hf1 := blk_frozen BK1.out 1
        by_cases c4 : x24 < (t1.length : Int)
        · rw [if_pos c4] at H
          have c4b : decide (x24 < (t1.length : Int)) = true := decide_eq_true c4
          clear c4
          by_cases c5 : x2.length < 17592186044416
          · rw [if_pos c5] at H
            have LM := Aside0.mk c5
            clear c5
            replace H := Option.bind_eq_some_iff.mp H
            obtain ⟨⟨p1, p2⟩, A60, H⟩ := H
            have A6 := Aside0.mk A60
            clear A60
            cases p1 with
            | false =>
              replace H : (forms_Forms.l0 k1 a0 t1 (x2 ++ [0]) (wrap64 (x24 + 1))) = some r := H
              have H' := Aside0.mk H
              clear H
              go_wp2_with (first | (go_at_call 27; (with_reducible refine (forms_reader_letter.calls k1 a0 _ _ t1 x24 _ p2 _ ?side1 ?side2 A6.out).mono ?_); (case side1 => repeat (first | exact (Kd.R_reads' HO_3.out).2.2 | (with_reducible refine Kd.C_alloc ?_ _) | (with_reducible refine Kd.C_drewN ?_ _) | (with_reducible refine Kd.C_drew ?_))); (case side2 => exact (Kd.R_reads' HO_3.out).2.1); rintro e w9 ⟨rfl, hb⟩; have n0_ := Aside0.mk (Kd.R_below (by (with_reducible repeat (first | apply Kd.R_alloc | apply Kd.R_drewN | apply Kd.R_drew)); exact HO_3.out) hb); have n1_ := Aside0.mk (Kd.R_below (by (with_reducible repeat (first | apply Kd.R_alloc | apply Kd.R_drewN | apply Kd.R_drew)); exact HO_4.out) hb); have n2_ := Aside0.mk (below_step (by repeat (first | (with_reducible first | exact HB.out | apply below_alloc | apply pw_below_drewN | apply below_drew1) | exact HB.out)) hb); have n3_ := Aside0.mk (ismap_below (by (with_reducible repeat (first | refine ismap_drewN ?_ _ | refine ismap_drew ?_ | refine ismap_alloc ?_ _)); exact HM.out) hb); have n4_ := Aside0.mk (blk_below0 (by (with_reducible repeat (first | refine blk_drewN ?_ _ | refine blk_drew ?_ | refine blk_alloc ?_ _)); exact BK1.out) hb); clear HO_3 HO_4 HB HM BK1; have HO_3 := n0_; have HO_4 := n1_; have HB := n2_; have HM := n3_; have BK1 := n4_; clear n0_ n1_ n2_ n3_ n4_ hb) | ((with_reducible refine gate_builtin (b := .append) (xs := #[.tmp 47, .tmp 48]) rfl ?_); at_builtin; refine Kd.R_append (Kd.int .i64) (w0 := w) w.heap.size rfl (.tmp 47) (.tmp 48) 22 3 (.int .i64 0) 8 rfl Try.underlying22 info3 rfl (by decide) (by omega) u2 x2 (0) [.int .i64 (0)] (fun _ => True) (fun _ => False) rfl rfl ?aP (fun _ hk => hk.elim) ?aF ?aO ?aB ?aS ?aL ?_; (case aP => exact rfl); (case aB => exact (by repeat (first | (with_reducible first | exact HB.out | apply below_alloc | apply pw_below_drewN | apply below_drew1) | exact HB.out))); (case aF => exact (fun _ _ => trivial)); (case aO => exact (by (with_reducible repeat (first | apply Kd.R_alloc | apply Kd.R_drewN | apply Kd.R_drew)); exact HO_4.out)); (case aS => exact (below_size (by repeat (first | (with_reducible first | exact HB.out | apply below_alloc | apply pw_below_drewN | apply below_drew1) | exact HB.out)))); (case aL => have := LM.out; omega); intro v311 w19 ho hb hg hat; have n0_ := Aside0.mk (Kd.R_over' (by (with_reducible repeat (first | apply Kd.R_alloc | apply Kd.R_drewN | apply Kd.R_drew)); exact HO_3.out) (Kd.R_typed (by (with_reducible repeat (first | apply Kd.R_alloc | apply Kd.R_drewN | apply Kd.R_drew)); exact HO_4.out)) (by decide) hg); have n3_ := Aside0.mk (ismap_grown (by (with_reducible repeat (first | refine ismap_drewN ?_ _ | refine ismap_drew ?_ | refine ismap_alloc ?_ _)); exact HM.out) (Kd.R_typed (by (with_reducible repeat (first | apply Kd.R_alloc | apply Kd.R_drewN | apply Kd.R_drew)); exact HO_4.out)) hg); have n4_ := Aside0.mk (blk_grown_ty (by (with_reducible repeat (first | refine blk_drewN ?_ _ | refine blk_drew ?_ | refine blk_alloc ?_ _)); exact BK1.out) (Kd.R_typed (by (with_reducible repeat (first | apply Kd.R_alloc | apply Kd.R_drewN | apply Kd.R_drew)); exact HO_4.out)) (by decide) hg); have n1_ := Aside0.mk (hb); have n2_ := Aside0.mk (ho); clear HO_3 HB HO_4 HM BK1; have HO_3 := n0_; have HB := n1_; have HO312 := n2_; have HM := n3_; have BK1 := n4_; clear n0_ n1_ n2_ n3_ n4_; clear ho hb hg hat))
              go_roundg k1
              case measure => have := HK1.out; omega
              case rel => exact ⟨x2 ++ [0], wrap64 (x24 + 1), (by first | rfl | (simp; done) | (simp [*]; done)), H', ⟨by have := HK1.out; omega⟩, ⟨by (with_reducible repeat (first | refine ismap_drewN ?_ _ | refine ismap_drew ?_ | refine ismap_alloc ?_ _)); exact HM.out⟩, ⟨by (with_reducible repeat (first | apply Kd.R_alloc | apply Kd.R_drewN | apply Kd.R_drew)); exact HO_3.out⟩, ⟨by (with_reducible repeat (first | apply Kd.R_alloc | apply Kd.R_drewN | apply Kd.R_drew)); exact HO312.out⟩, ⟨by (with_reducible repeat (first | refine blk_drewN ?_ _ | refine blk_drew ?_ | refine blk_alloc ?_ _)); exact BK1.out⟩, ⟨by repeat (first | (with_reducible first | exact HB.out | apply below_alloc | apply pw_below_drewN | apply below_drew1) | exact HB.out)⟩⟩
            | true =>
              replace H : ((forms_reader_on.f k1 a0 t1 (wrap64 (x24 - 1))).bind fun a => ((forms_reader_on.f k1 a0 t1 x24).bind fun b => (forms_Forms.l0 k1 a0 t1 (x2 ++ [hname a b]) (wrap64 (x24 + 1))))) = some r := H
              replace H := Option.bind_eq_some_iff.mp H
              obtain ⟨q1, A70, H⟩ := H
              replace H := Option.bind_eq_some_iff.mp H
              obtain ⟨q2, A80, H⟩ := H
              have A7 := Aside0.mk A70
              have A8 := Aside0.mk A80
              clear A70 A80
              obtain ⟨nm, hnm⟩ : ∃ n, n = hname q1 q2 := ⟨_, rfl⟩
              have HN := Aside0.mk hnm
              rw [← hnm] at H
              clear hnm
              replace H : (forms_Forms.l0 k1 a0 t1 (x2 ++ [nm]) (wrap64 (x24 + 1))) = some r := H
              have H' := Aside0.mk H
              clear H
              go_wp2_with (first | (go_at_call 27; (with_reducible refine (forms_reader_letter.calls k1 a0 _ _ t1 x24 _ p2 _ ?side1 ?side2 A6.out).mono ?_); (case side1 => repeat (first | exact (Kd.R_reads' HO_3.out).2.2 | (with_reducible refine Kd.C_alloc ?_ _) | (with_reducible refine Kd.C_drewN ?_ _) | (with_reducible refine Kd.C_drew ?_))); (case side2 => exact (Kd.R_reads' HO_3.out).2.1); rintro e w9 ⟨rfl, hb⟩; have n0_ := Aside0.mk (Kd.R_below (by (with_reducible repeat (first | apply Kd.R_alloc | apply Kd.R_drewN | apply Kd.R_drew)); exact HO_3.out) hb); have n1_ := Aside0.mk (Kd.R_below (by (with_reducible repeat (first | apply Kd.R_alloc | apply Kd.R_drewN | apply Kd.R_drew)); exact HO_4.out) hb); have n2_ := Aside0.mk (below_step (by repeat (first | (with_reducible first | exact HB.out | apply below_alloc | apply pw_below_drewN | apply below_drew1) | exact HB.out)) hb); have n3_ := Aside0.mk (ismap_below (by (with_reducible repeat (first | refine ismap_drewN ?_ _ | refine ismap_drew ?_ | refine ismap_alloc ?_ _)); exact HM.out) hb); have n4_ := Aside0.mk (blk_below0 (by (with_reducible repeat (first | refine blk_drewN ?_ _ | refine blk_drew ?_ | refine blk_alloc ?_ _)); exact BK1.out) hb); clear HO_3 HO_4 HB HM BK1; have HO_3 := n0_; have HO_4 := n1_; have HB := n2_; have HM := n3_; have BK1 := n4_; clear n0_ n1_ n2_ n3_ n4_ hb) | (go_at_call 26; (with_reducible refine (forms_reader_on.calls k1 a0 _ _ t1 (wrap64 (x24 - 1)) q1 _ ?side1 ?side2 A7.out).mono ?_); (case side1 => repeat (first | exact (Kd.R_reads' HO_3.out).2.2 | (with_reducible refine Kd.C_alloc ?_ _) | (with_reducible refine Kd.C_drewN ?_ _) | (with_reducible refine Kd.C_drew ?_))); (case side2 => exact (Kd.R_reads' HO_3.out).2.1); rintro e w9 ⟨rfl, hb⟩; have n0_ := Aside0.mk (Kd.R_below (by (with_reducible repeat (first | apply Kd.R_alloc | apply Kd.R_drewN | apply Kd.R_drew)); exact HO_3.out) hb); have n1_ := Aside0.mk (Kd.R_below (by (with_reducible repeat (first | apply Kd.R_alloc | apply Kd.R_drewN | apply Kd.R_drew)); exact HO_4.out) hb); have n2_ := Aside0.mk (below_step (by repeat (first | (with_reducible first | exact HB.out | apply below_alloc | apply pw_below_drewN | apply below_drew1) | exact HB.out)) hb); have n3_ := Aside0.mk (ismap_below (by (with_reducible repeat (first | refine ismap_drewN ?_ _ | refine ismap_drew ?_ | refine ismap_alloc ?_ _)); exact HM.out) hb); have n4_ := Aside0.mk (blk_below0 (by (with_reducible repeat (first | refine blk_drewN ?_ _ | refine blk_drew ?_ | refine blk_alloc ?_ _)); exact BK1.out) hb); clear HO_3 HO_4 HB HM BK1; have HO_3 := n0_; have HO_4 := n1_; have HB := n2_; have HM := n3_; have BK1 := n4_; clear n0_ n1_ n2_ n3_ n4_ hb) | (go_at_call 26; (with_reducible refine (forms_reader_on.calls k1 a0 _ _ t1 (x24) q2 _ ?side1 ?side2 A8.out).mono ?_); (case side1 => repeat (first | exact (Kd.R_reads' HO_3.out).2.2 | (with_reducible refine Kd.C_alloc ?_ _) | (with_reducible refine Kd.C_drewN ?_ _) | (with_reducible refine Kd.C_drew ?_))); (case side2 => exact (Kd.R_reads' HO_3.out).2.1); rintro e w9 ⟨rfl, hb⟩; have n0_ := Aside0.mk (Kd.R_below (by (with_reducible repeat (first | apply Kd.R_alloc | apply Kd.R_drewN | apply Kd.R_drew)); exact HO_3.out) hb); have n1_ := Aside0.mk (Kd.R_below (by (with_reducible repeat (first | apply Kd.R_alloc | apply Kd.R_drewN | apply Kd.R_drew)); exact HO_4.out) hb); have n2_ := Aside0.mk (below_step (by repeat (first | (with_reducible first | exact HB.out | apply below_alloc | apply pw_below_drewN | apply below_drew1) | exact HB.out)) hb); have n3_ := Aside0.mk (ismap_below (by (with_reducible repeat (first | refine ismap_drewN ?_ _ | refine ismap_drew ?_ | refine ismap_alloc ?_ _)); exact HM.out) hb); have n4_ := Aside0.mk (blk_below0 (by (with_reducible repeat (first | refine blk_drewN ?_ _ | refine blk_drew ?_ | refine blk_alloc ?_ _)); exact BK1.out) hb); clear HO_3 HO_4 HB HM BK1; have HO_3 := n0_; have HO_4 := n1_; have HB := n2_; have HM := n3_; have BK1 := n4_; clear n0_ n1_ n2_ n3_ n4_ hb) | (at_lookup; refine wpList_lookup_kb rfl (.tmp 35) (.tmp 43) rfl (B := B) (by rfl) (by (with_reducible repeat (first | refine ismap_drewN ?_ _ | refine ismap_drew ?_ | refine ismap_alloc ?_ _)); exact HM.out) (by rfl) (HALL.out q1 q2) HN.out ?_) | ((with_reducible refine gate_builtin (b := .append) (xs := #[.tmp 34, .tmp 45]) rfl ?_); at_builtin; refine Kd.R_append (Kd.int .i64) (w0 := w) w.heap.size rfl (.tmp 34) (.tmp 45) 22 3 (.int .i64 0) 8 rfl Try.underlying22 info3 rfl (by decide) (by omega) u2 x2 (nm) [.int .i64 (nm)] (fun _ => True) (fun _ => False) rfl rfl ?aP (fun _ hk => hk.elim) ?aF ?aO ?aB ?aS ?aL ?_; (case aP => exact rfl); (case aB => exact (by repeat (first | (with_reducible first | exact HB.out | apply below_alloc | apply pw_below_drewN | apply below_drew1) | exact HB.out))); (case aF => exact (fun _ _ => trivial)); (case aO => exact (by (with_reducible repeat (first | apply Kd.R_alloc | apply Kd.R_drewN | apply Kd.R_drew)); exact HO_4.out)); (case aS => exact (below_size (by repeat (first | (with_reducible first | exact HB.out | apply below_alloc | apply pw_below_drewN | apply below_drew1) | exact HB.out)))); (case aL => have := LM.out; omega); intro v311 w19 ho hb hg hat; have n0_ := Aside0.mk (Kd.R_over' (by (with_reducible repeat (first | apply Kd.R_alloc | apply Kd.R_drewN | apply Kd.R_drew)); exact HO_3.out) (Kd.R_typed (by (with_reducible repeat (first | apply Kd.R_alloc | apply Kd.R_drewN | apply Kd.R_drew)); exact HO_4.out)) (by decide) hg); have n3_ := Aside0.mk (ismap_grown (by (with_reducible repeat (first | refine ismap_drewN ?_ _ | refine ismap_drew ?_ | refine ismap_alloc ?_ _)); exact HM.out) (Kd.R_typed (by (with_reducible repeat (first | apply Kd.R_alloc | apply Kd.R_drewN | apply Kd.R_drew)); exact HO_4.out)) hg); have n4_ := Aside0.mk (blk_grown_ty (by (with_reducible repeat (first | refine blk_drewN ?_ _ | refine blk_drew ?_ | refine blk_alloc ?_ _)); exact BK1.out) (Kd.R_typed (by (with_reducible repeat (first | apply Kd.R_alloc | apply Kd.R_drewN | apply Kd.R_drew)); exact HO_4.out)) (by decide) hg); have n1_ := Aside0.mk (hb); have n2_ := Aside0.mk (ho); clear HO_3 HB HO_4 HM BK1; have HO_3 := n0_; have HB := n1_; have HO312 := n2_; have HM := n3_; have BK1 := n4_; clear n0_ n1_ n2_ n3_ n4_; clear ho hb hg hat))
              go_roundg k1
              case measure => have := HK1.out; omega
              case rel => exact ⟨x2 ++ [nm], wrap64 (x24 + 1), (by first | rfl | (simp; done) | (simp [*]; done)), H', ⟨by have := HK1.out; omega⟩, ⟨by (with_reducible repeat (first | refine ismap_drewN ?_ _ | refine ismap_drew ?_ | refine ismap_alloc ?_ _)); exact HM.out⟩, ⟨by (with_reducible repeat (first | apply Kd.R_alloc | apply Kd.R_drewN | apply Kd.R_drew)); exact HO_3.out⟩, ⟨by (with_reducible repeat (first | apply Kd.R_alloc | apply Kd.R_drewN | apply Kd.R_drew)); exact HO312.out⟩, ⟨by (with_reducible repeat (first | refine blk_drewN ?_ _ | refine blk_drew ?_ | refine blk_alloc ?_ _)); exact BK1.out⟩, ⟨by repeat (first | (with_reducible first | exact HB.out | apply below_alloc | apply pw_below_drewN | apply below_drew1) | exact HB.out)⟩⟩
          · rw [if_neg c5] at H
            exact absurd H (by simp)
        · rw [if_neg c4] at H
          have c4b : decide (x24 < (t1.length : Int)) = false := decide_eq_false c4
          clear c4
          obtain rfl := Option.some.inj H
          clear H
          go_wp2
          go_ret
          exact ⟨_, rfl, HO_4.out, HB.out⟩


end Go.Proofs.Ytgpdieogkcnfeaa.Q

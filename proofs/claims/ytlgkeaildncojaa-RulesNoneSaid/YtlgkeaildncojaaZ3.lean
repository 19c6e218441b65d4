/- Texts of this claim, merged by wip/tools/pack.py: N3, N4, Qx5, Qx6. -/
import Derived.Test.YtlgkeaildncojaaZ2
section
namespace Go.Proofs.Ytlgkeaildncojaa.Q
open Go.RowKit Go.Proofs.YtlgkeaildncojaaW.PrintWords Go.Proofs.YtlgkeaildncojaaW.PrintLast Go.Proofs.YtlgkeaildncojaaW.PrintMore
set_option linter.unusedSimpArgs false
set_option linter.unusedVariables false
section
variable {P : Program} {ops : Array Oper} {Q : Exit → Act → World → Prop}
theorem goesLv_ {rest : List Oper} {oi : Oper} {a : Act} {w : World} (N : Option Tmp) (hd : oi.dst = N) (hg : oi.guard = none) {f : FuncId} {fn : Func} {x : Operand} {xs : Array Operand} {ts : Array TypeId} {fr : Array Value} (hf : P.funcs[f]? = some fn) (hname : (fn.name == "runtime.NumGoroutine") = false) (hb : fn.body.isSome = true) (args : Array Value)
    (hop : oi.op = .call { callee := .value x, args := xs, argTypes := ts }) (hx : a.eval x = .func (.func f) #[] fr) (hargs : xs.map a.eval ++ fr = args)
    (h : Calls P f args w fun e w' => ∃ v, e = .returned v ∧ wpList P ops Q rest (a.put N v) w') : wpList P ops Q (oi :: rest) a w := by
  refine wpList_plain hg fun K hK => ?_
  have he := enters_ hf hname hb args w
  have hrun : (execOp a.eval oi).run P w = .ok (.enter f args) w := by
    unfold execOp
    simp [hop, resolve, Deferred.ofValue, invoke, hx, hargs, he]
  unfold Oper.wp
  rw [hrun, Oper.upon_enter]
  refine h.mono fun e w'' hh => ?_
  obtain ⟨v, rfl, hk⟩ := hh
  subst hd
  exact hK _ _ hk
end
theorem run_update_op {a : Act} {w w1 : World} {m kk v : Value} {t1 t2 t3 : Tmp} {T : TypeId} {o : Oper} (h1 : Act.eval a (.tmp t1) = m) (h2 : Act.eval a (.tmp t2) = kk) (h3 : Act.eval a (.tmp t3) = v) (ho : o.op = .mapUpdate T (.tmp t1) (.tmp t2) (.tmp t3))
    (hr : (Instr.mapUpdate T m kk v).run Try.prog w = .ok () w1) : (execOp a.eval o).run Try.prog w = .ok .skip w1 := by
  have e : execOp a.eval o = (do Instr.mapUpdate T m kk v; pure .skip) := by
    unfold execOp
    rw [ho]
    simp only [h1, h2, h3]
  rw [e]
  simp only [Sem.run_bind, hr, Result.andThen]
  rfl

theorem w64 {x : Int} (h1 : -9223372036854775808 ≤ x) (h2 : x ≤ 9223372036854775807) : wrap64 x = x := by
  unfold wrap64
  omega
/-- The state behind k whole lists and j elements of list k. -/
def MS (w : World) (b : Nat) (l m : List Int) (k j : Nat) : Prop := if k = 0 then BM w b (l.take j) [] else BM w b l (m.take j)
theorem mem_take_succ (l : List Int) (j : Nat) (hj : j < l.length) (y : Int) : y ∈ l.take (j + 1) ↔ y ∈ l.take j ∨ y = l[j] := by
  rw [List.take_add_one, List.getElem?_eq_getElem hj, List.mem_append]
  simp
theorem rd_get (l : List Int) (j : Nat) (hj : j < l.length) : rd l (j : Int) = l[j] := by
  simp [rd, List.getD_eq_getElem?_getD, List.getElem?_eq_getElem hj]
theorem or1 (A B : List Int) (x : Int) : Go.bits .or .u64 (bval A B x) 1 = bval (x :: A) B x := by
  unfold bval
  by_cases h1 : x ∈ A <;> by_cases h2 : x ∈ B <;> simp [h1, h2] <;> decide
theorem or2 (A B : List Int) (x : Int) : Go.bits .or .u64 (bval A B x) 2 = bval A (x :: B) x := by
  unfold bval
  by_cases h1 : x ∈ A <;> by_cases h2 : x ∈ B <;> simp [h1, h2] <;> decide
theorem bval_mem {A A' B B' : List Int} {x : Int} (ha : x ∈ A ↔ x ∈ A') (hb : x ∈ B ↔ x ∈ B') : bval A B x = bval A' B' x := by
  unfold bval
  simp only [ha, hb]
/-- One round. -/
theorem ms_step (w : World) (b : Nat) (l m : List Int) (k j : Nat) (hk : k < 2) (hj : j < (if k = 0 then l else m).length) (hwf : (Lit.int .i64 ((if k = 0 then l else m)[j])).wf = true) (hl : l.length + m.length < maxLen) (h : MS w b l m k j) :
    ∃ bv, (Instr.lookup 100 (.map (some b)) (.int .i64 ((if k = 0 then l else m)[j])) false).run Try.prog w = .ok (.int .u64 bv) w ∧
    ∃ w1, (Instr.mapUpdate 100 (.map (some b)) (.int .i64 ((if k = 0 then l else m)[j])) (.int .u64 (Go.bits .or .u64 bv (if k = 0 then 1 else 2)))).run Try.prog w = .ok () w1 ∧ MS w1 b l m k (j + 1) ∧ w.grownBy w1 (some b) := by
  rcases (show k = 0 ∨ k = 1 by omega) with rfl | rfl
  · simp only [if_true] at *
    unfold MS at *
    simp only [if_true] at *
    have hj' : j < l.length := hj
    have hm := mem_take_succ l j hj'
    obtain ⟨h1, w1, h2, h3, h4⟩ := bm_step w b (l.take j) [] (l.take (j + 1)) [] l[j] hwf h (by simp only [List.length_take, List.length_nil]; omega) (by simp only [List.length_take, List.length_nil]; omega) (fun y hy => by rw [hm]; simp [hy]) (fun y _ => Iff.rfl) (.inl (by rw [hm]; exact .inr rfl))
    refine ⟨_, h1, w1, ?_, h3, h4⟩
    rw [or1, bval_mem (A' := l.take (j + 1)) (B' := []) (by rw [hm]; simp) Iff.rfl]
    exact h2
  · simp only [if_neg (show ¬ (1 : Nat) = 0 by decide)] at *
    unfold MS at *
    simp only [if_neg (show ¬ (1 : Nat) = 0 by decide)] at *
    have hj' : j < m.length := hj
    have hm := mem_take_succ m j hj'
    obtain ⟨h1, w1, h2, h3, h4⟩ := bm_step w b l (m.take j) l (m.take (j + 1)) m[j] hwf h (by simp only [List.length_take, List.length_nil]; omega) (by simp only [List.length_take, List.length_nil]; omega) (fun y _ => Iff.rfl) (fun y hy => by rw [hm]; simp [hy]) (.inr (by rw [hm]; exact .inr rfl))
    refine ⟨_, h1, w1, ?_, h3, h4⟩
    rw [or2, bval_mem (A' := l) (B' := m.take (j + 1)) Iff.rfl (by rw [hm]; simp)]
    exact h2
theorem ms_next {w : World} {b : Nat} {l m : List Int} (h : MS w b l m 0 l.length) : MS w b l m 1 0 := by
  unfold MS at *
  simpa using h
/-- The rows and the map of one loop. -/
theorem ranges_ne {w : World} {b r n cnt : Nat} {D : DataW Nat} {left : Lit → Bool} {v : Value} {e : TypeId} (h : w.ranges Try.prog 3 (plainElem Try.prog 80) b r n D left cnt) (ht : ∀ k, v.ownBlock = some k → ∃ cells, w.heap[k]? = some (.cells cells e (0, 0))) : some b ≠ v.ownBlock ∧ some r ≠ v.ownBlock := by
  obtain ⟨es, clock, since, seen, c0, hb, _, _, _, hr, _⟩ := h
  refine ⟨fun he => ?_, fun he => ?_⟩
  · obtain ⟨cells, hc⟩ := ht b he.symm
    rw [hb] at hc
    cases hc
  · obtain ⟨cells, hc⟩ := ht r he.symm
    rw [hr] at hc
    cases hc
theorem r_iter {w w' : World} {base r : Nat} {ok : Nat → Prop} {v : Value} {L : List Int} (h : Kd.R (Kd.int .i64) 3 w base ok v L) (hg : w.grownBy w' (some r)) (hne : some r ≠ v.ownBlock) : Kd.R (Kd.int .i64) 3 w' base ok v L :=
  Kd.R_of_own ((Kd.own_of_R h).kept hg (.inr fun e => hne e.symm)) h.1
theorem r_base {w : World} {base : Nat} {ok : Nat → Prop} {v : Value} {L : List Int} (h : Kd.R (Kd.int .i64) 3 w base ok v L) : ∀ k, v.ownBlock = some k → base ≤ k := fun k hk => ((Kd.own_of_R h).lt k hk).1
/-- What the rows hold once the keys that are not left have been seen. -/
def Seen (p : Int → Bool) (l m : List Int) (left : Lit → Bool) (L : List Int) : Prop := L.Nodup ∧ ∀ y, y ∈ L ↔ (y ∈ l ∨ y ∈ m) ∧ left (.int .i64 y) = false ∧ p (bval l m y) = true
theorem seen_start {p : Int → Bool} {l m : List Int} {left : Lit → Bool} (h : ∀ x, left (.int .i64 x) = decide (x ∈ l ∨ x ∈ m)) : Seen p l m left [] := by
  refine ⟨List.nodup_nil, fun y => ?_⟩
  rw [h y]
  simp only [List.not_mem_nil, false_iff]
  rintro ⟨h1, h2, _⟩
  exact absurd h1 (of_decide_eq_false h2)
theorem seen_end {p : Int → Bool} {l m : List Int} {left : Lit → Bool} {L : List Int} (h : Seen p l m left L) (hl : ∀ kl, left kl = false) : (L.mergeSort fun x y => decide (x ≤ y)) = hset ((l ++ m).filter fun x => p (bval l m x)) := by
  refine sort_nodup L _ h.1 (fun y => ?_)
  rw [h.2, List.mem_filter, List.mem_append]
  simp [hl]
theorem same_int (y x : Int) : Lit.sameKey (.int .i64 y) (.int .i64 x) = decide (y = x) := by simp [Lit.sameKey]
theorem seen_no {p : Int → Bool} {l m : List Int} {left : Lit → Bool} {L : List Int} {x : Int} (h : Seen p l m left L) (hl : left (.int .i64 x) = true) (hp : p (bval l m x) = false) : Seen p l m (fun z => left z && !z.sameKey (.int .i64 x)) L := by
  refine ⟨h.1, fun y => ?_⟩
  rw [h.2]
  simp only [same_int]
  by_cases hy : y = x
  · subst hy
    simp [hl, hp]
  · simp [hy]
theorem seen_yes {p : Int → Bool} {l m : List Int} {left : Lit → Bool} {L : List Int} {x : Int} (h : Seen p l m left L) (hl : left (.int .i64 x) = true) (hm : x ∈ l ∨ x ∈ m) (hp : p (bval l m x) = true) : Seen p l m (fun z => left z && !z.sameKey (.int .i64 x)) (L ++ [x]) := by
  refine ⟨?_, fun y => ?_⟩
  · rw [List.nodup_append]
    refine ⟨h.1, by simp, fun a ha b hb => ?_⟩
    rw [List.mem_singleton] at hb
    subst hb
    rintro rfl
    have := ((h.2 a).mp ha).2.1
    rw [hl] at this
    cases this
  · rw [List.mem_append, h.2, List.mem_singleton]
    simp only [same_int]
    by_cases hy : y = x
    · subst hy
      simp [hm, hp]
    · simp [hy]

set_option maxHeartbeats 8000000 in
set_option maxRecDepth 100000 in
theorem chosen_calls (p : Int → Bool) (g : FuncId) (fn : Func) (hf : Try.prog.funcs[g]? = some fn) (hname : (fn.name == "runtime.NumGoroutine") = false) (hbody : fn.body.isSome = true)
    (hfit : ∀ (x : Int) (w : World), Calls Try.prog g #[.int .u64 x] w fun e w' => e = .returned (.bool (p x)) ∧ Below w.heap.size w w')
    (A0 : Option Addr) (ls : List (List Int)) (cap : Nat) (w : World) (l m : List Int) (hls : Kd.C (Kd.slice 3 (Kd.int .i64)) w A0 ls.length ls) (hcap : ls.length ≤ cap) (hN : ls.length = 1 ∧ m = [] ∨ ls.length = 2) (hl0 : rd_L1 ls 0 = l) (hl1 : ls.length = 2 → rd_L1 ls 1 = m)
    (hwl : ∀ x ∈ l, (Lit.int .i64 x).wf = true) (hwm : ∀ x ∈ m, (Lit.int .i64 x).wf = true) (hlen : l.length + m.length < 4398046511104) :
    Calls Try.prog 41 #[.func (.func g) #[] #[], .slice A0 ls.length cap] w fun e w' => ∃ v, e = .returned v ∧ Kd.R (Kd.int .i64) 3 w' w.heap.size (fun _ => True) v (hset ((l ++ m).filter fun x => p (bval l m x))) ∧ Below w.heap.size w w' := by
  have hmm := @run_makeMap Try.prog
  have HL0 := Aside0.mk hls
  have HN := Aside0.mk hN
  have HL1 := Aside0.mk hl1
  have HWL := Aside0.mk hwl
  have HWM := Aside0.mk hwm
  have HLEN := Aside0.mk hlen
  have HF := Aside0.mk hfit
  have HC := Aside0.mk hcap
  have HE := Aside0.mk hl0
  have HLE : Aside0 (0 ≤ (ls.length : Int)) := ⟨by omega⟩
  clear hls hN hl1 hwl hwm hlen hfit hcap hl0
  go_enter Try.func41, Try.ntmps41
  go_wp2
  repeat (go_quiet (fail); try go_wp2)
  have HM := Aside0.mk (bm_made w)
  have HB := Aside0.mk ((Below.refl w.heap.size w).alloc (Nat.le_refl _) (.map #[] 0))
  generalize hgb : w.heap.size = gb at *
  go_loopw [16] (fun v16 w' => ∃ k : Nat, v16 = .int .i64 k ∧ Aside0 (k ≤ ls.length) ∧ Aside0 (if k < 2 then MS w' gb l m k 0 else BM w' gb l m) ∧ Aside0 (Below gb w w')) (fun v16 _ => ls.length - (intOf v16).toNat)
  case atStart => exact ⟨0, rfl, ⟨Nat.zero_le _⟩, by first | exact HM | exact ⟨HM.out⟩, HB⟩
  case round =>
    clear HM HB
    obtain ⟨k, rfl, HK, HM, HB⟩ := hrel
    by_cases c1 : (k : Int) < (ls.length : Int)
    · have c1b : decide ((k : Int) < (ls.length : Int)) = true := decide_eq_true c1
      have hk2 : k < 2 := by rcases HN.out with h | h <;> omega
      have HM1 := HM.out
      rw [if_pos hk2] at HM1
      have HM2 := Aside0.mk HM1
      clear HM1 HM
      rcases (show k = 0 ∨ k = 1 by omega) with rfl | rfl
      · -- list 0
        have c1x : decide (0 < ls.length) = true := by simpa using c1
        have p1 : (0 : Int) ≤ ((0 : Nat) : Int) := by omega
        have q1 : ((0 : Nat) : Int) < (ls.length : Int) := of_decide_eq_true c1b
        obtain ⟨ad1, A1, c1_, e1, hx1, hl1, hC1⟩ := at_L1 HL0.out ((0 : Nat) : Int) p1 q1
        cases e1
        have he : rd_L1 ls ((0 : Nat) : Int) = l := HE.out
        rw [he] at hx1 hl1 hC1
        replace hx1 := (HB.out.cell (by rw [← hgb]; exact World.block_lt_of_cell? w _ hx1)).trans hx1
        replace hx1 : wr.cell? ad1 = some (.slice A1 l.length c1_) := hx1
        have q2 := eq_true (of_decide_eq_true c1x)
        replace p1 := eq_true p1
        replace q1 := eq_true q1
        have HC1 := Aside0.mk hC1
        clear hC1
        go_wp2
        repeat (go_quiet (fail); try go_wp2)
        go_loopw [23] (fun v23 w' => ∃ j : Nat, v23 = .int .i64 j ∧ Aside0 (j ≤ l.length) ∧ Aside0 (MS w' gb l m 0 j) ∧ Aside0 (Below gb w w')) (fun v23 _ => l.length - (intOf v23).toNat)
        case atStart => exact ⟨0, rfl, ⟨Nat.zero_le _⟩, HM2, HB⟩
        case round =>
          clear HM2 HB hx1
          obtain ⟨j, rfl, HJ, HM, HB⟩ := hrel
          by_cases c2 : (j : Int) < (l.length : Int)
          · have c2b : decide ((j : Int) < (l.length : Int)) = true := decide_eq_true c2
            have c2n : decide (j < l.length) = true := by simpa using c2
            have hj : j < l.length := of_decide_eq_true c2n
            have p3 : (0 : Int) ≤ (j : Int) := by omega
            have q3 := c2
            obtain ⟨ad2, e2, hx2⟩ := Kd.at_int (Kd.C_below HC1.out (by rw [hgb]; exact HB.out)) (j : Int) p3 q3
            cases e2
            rw [rd_get _ _ hj] at hx2
            replace hx2 : wr.cell? (ad2.add j) = some (.int .i64 (l[j])) := hx2
            obtain ⟨bv, hlk, w1_, hup, HM', hg⟩ := ms_step wr.drew gb l m 0 j (by omega) hj (HWL.out _ (List.getElem_mem hj)) (by have := HLEN.out; simp only [maxLen]; omega) HM.out
            replace hlk : (Instr.lookup 100 (.map (some gb)) (.int .i64 l[j]) false).run Try.prog wr.drew = .ok (.int .u64 bv) wr.drew := hlk
            replace hup : (Instr.mapUpdate 100 (.map (some gb)) (.int .i64 l[j]) (.int .u64 (Go.bits .or .u64 bv 1))).run Try.prog wr.drew = .ok () w1_ := hup
            obtain ⟨xe, hxe⟩ : ∃ x, l[j] = x := ⟨_, rfl⟩
            rw [hxe] at hx2 hlk hup
            have HM3 := Aside0.mk HM'
            have HG := Aside0.mk hg
            replace p3 := eq_true p3
            replace q3 := eq_true q3
            have q4 := eq_true hj
            clear HM' hg HM hj c2 hxe
            go_wp2
            refine start_ (n := 7) (S := fun w' => (Instr.lookup 100 (.map (some gb)) (.int .i64 xe) false).run Try.prog w' = .ok (.int .u64 bv) w') (ds := [6]) #[false, false, false, false, false, false, false] (by kernel_rfl) rfl rfl (hlk) (fun hHeld => ?_)
            refine pure_ (i := 0) (N := some 27) (v := ?_) (a' := ?_) #[true, false, false, false, false, false, false] rfl rfl (by kernel_rfl) (fun _ _ _ h => h) (Or.inl ⟨by rfl, ?_⟩) ?_ ?_
            rotate_left
            · intro w'
              go_simp
              with_reducible rfl
            rotate_left
            · simp only [Act.put, List.setIfInBounds_toArray, List.set_cons_zero, List.set_cons_succ, i64_w, i32_w]
              rfl
            refine pure_ (i := 1) (N := some 28) (v := ?_) (a' := ?_) #[true, true, false, false, false, false, false] rfl rfl (by kernel_rfl) (fun _ _ _ h => h) (Or.inl ⟨by rfl, ?_⟩) ?_ ?_
            rotate_left
            · intro w'
              go_simp
              with_reducible rfl
            rotate_left
            · simp only [Act.put, List.setIfInBounds_toArray, List.set_cons_zero, List.set_cons_succ, i64_w, i32_w]
              rfl
            refine pure_ (i := 3) (N := some 30) (v := ?_) (a' := ?_) #[true, true, false, true, false, false, false] rfl rfl (by kernel_rfl) (fun _ _ _ h => h) (Or.inl ⟨by rfl, ?_⟩) ?_ ?_
            rotate_left
            · intro w'
              go_simp
              with_reducible rfl
            rotate_left
            · simp only [Act.put, List.setIfInBounds_toArray, List.set_cons_zero, List.set_cons_succ, i64_w, i32_w]
              rfl
            refine pure_ (i := 4) (N := some 31) (v := ?_) (a' := ?_) #[true, true, false, true, true, false, false] rfl rfl (by kernel_rfl) (fun _ _ _ h => h) (Or.inl ⟨by rfl, ?_⟩) ?_ ?_
            rotate_left
            · intro w'
              go_simp
              with_reducible rfl
            rotate_left
            · simp only [Act.put, List.setIfInBounds_toArray, List.set_cons_zero, List.set_cons_succ, i64_w, i32_w]
              rfl
            refine take_ (i := 2) (N := some 29) (v := ?_) (a' := ?_) #[true, true, true, true, true, false, false] rfl rfl (by kernel_rfl) (fun _ _ _ h => h) (Or.inl ⟨by rfl, ?_⟩) hHeld ?_ ?_
            rotate_left
            · intro w' s0
              go_simp
              with_reducible rfl
            rotate_left
            · simp only [Act.put, List.setIfInBounds_toArray, List.set_cons_zero, List.set_cons_succ, i64_w, i32_w]
              rfl
            refine pure_ (i := 5) (N := some 32) (v := ?_) (a' := ?_) #[true, true, true, true, true, true, false] rfl rfl (by kernel_rfl) (fun _ _ _ h => h) (Or.inl ⟨by rfl, ?_⟩) ?_ ?_
            rotate_left
            · intro w'
              go_simp
              with_reducible rfl
            rotate_left
            · simp only [Act.put, List.setIfInBounds_toArray, List.set_cons_zero, List.set_cons_succ, i64_w, i32_w]
              rfl
            refine last_ (i := 6) (N := none) #[true, true, true, true, true, true, true] rfl rfl (by kernel_rfl) (by decide) (fun K hK => ?_)
            refine skip_ (w1 := w1_) (by rfl) rfl ?_ ?_
            · exact run_update_op (by rfl) (by rfl) (by rfl) rfl hup
            refine hK.out _ _ ?_
            clear hK K
            refine done_ (by kernel_rfl) ?_
            go_wp2
            have hj2 := of_eq_true q4
            have hwj : wrap64 ((j : Int) + 1) = ((j + 1 : Nat) : Int) := by rw [w64 (by omega) (by have := HLEN.out; omega)]; omega
            go_roundw
            case measure => rw [hwj]; simp only [intOf, Int.toNat_natCast]; omega
            case rel => exact ⟨j + 1, by rw [hwj], ⟨by omega⟩, HM3, ⟨HB.out.drew.grown HG.out (by have := HB.out.size; rw [hgb] at this; exact this) (fun k hk => by cases hk; exact Nat.le_refl _)⟩⟩
          · have c2b : decide ((j : Int) < (l.length : Int)) = false := decide_eq_false c2
            have c2n : decide (j < l.length) = false := by simpa using c2
            go_wp2
            go_roundw
            case measure => simp [intOf]; omega
            case rel =>
              obtain rfl : j = l.length := by have := HJ.out; omega
              exact ⟨0 + 1, by go_num, ⟨by omega⟩, ⟨by simpa using ms_next HM.out⟩, HB⟩
      · -- list 1
        have c1x : decide (1 < (ls.length : Int)) = true := by simpa using c1
        have p1 : (0 : Int) ≤ ((1 : Nat) : Int) := by omega
        have q1 : ((1 : Nat) : Int) < (ls.length : Int) := of_decide_eq_true c1b
        obtain ⟨ad1, A1, c1_, e1, hx1, hl1, hC1⟩ := at_L1 HL0.out ((1 : Nat) : Int) p1 q1
        cases e1
        have he : rd_L1 ls ((1 : Nat) : Int) = m := HL1.out (by rcases HN.out with h | h <;> omega)
        rw [he] at hx1 hl1 hC1
        replace hx1 := (HB.out.cell (by rw [← hgb]; exact World.block_lt_of_cell? w _ hx1)).trans hx1
        replace hx1 : wr.cell? ⟨ad1.block, ad1.off + 1, none⟩ = some (.slice A1 m.length c1_) := hx1
        have q2 := eq_true (of_decide_eq_true c1x)
        replace p1 := eq_true p1
        replace q1 := eq_true q1
        have HC1 := Aside0.mk hC1
        clear hC1
        go_wp2
        repeat (go_quiet (fail); try go_wp2)
        go_loopw [23] (fun v23 w' => ∃ j : Nat, v23 = .int .i64 j ∧ Aside0 (j ≤ m.length) ∧ Aside0 (MS w' gb l m 1 j) ∧ Aside0 (Below gb w w')) (fun v23 _ => m.length - (intOf v23).toNat)
        case atStart => exact ⟨0, rfl, ⟨Nat.zero_le _⟩, HM2, HB⟩
        case round =>
          clear HM2 HB hx1
          obtain ⟨j, rfl, HJ, HM, HB⟩ := hrel
          by_cases c2 : (j : Int) < (m.length : Int)
          · have c2b : decide ((j : Int) < (m.length : Int)) = true := decide_eq_true c2
            have c2n : decide (j < m.length) = true := by simpa using c2
            have hj : j < m.length := of_decide_eq_true c2n
            have p3 : (0 : Int) ≤ (j : Int) := by omega
            have q3 := c2
            obtain ⟨ad2, e2, hx2⟩ := Kd.at_int (Kd.C_below HC1.out (by rw [hgb]; exact HB.out)) (j : Int) p3 q3
            cases e2
            rw [rd_get _ _ hj] at hx2
            replace hx2 : wr.cell? (ad2.add j) = some (.int .i64 (m[j])) := hx2
            obtain ⟨bv, hlk, w1_, hup, HM', hg⟩ := ms_step wr.drew gb l m 1 j (by omega) hj (HWM.out _ (List.getElem_mem hj)) (by have := HLEN.out; simp only [maxLen]; omega) HM.out
            replace hlk : (Instr.lookup 100 (.map (some gb)) (.int .i64 m[j]) false).run Try.prog wr.drew = .ok (.int .u64 bv) wr.drew := hlk
            replace hup : (Instr.mapUpdate 100 (.map (some gb)) (.int .i64 m[j]) (.int .u64 (Go.bits .or .u64 bv 2))).run Try.prog wr.drew = .ok () w1_ := hup
            obtain ⟨xe, hxe⟩ : ∃ x, m[j] = x := ⟨_, rfl⟩
            rw [hxe] at hx2 hlk hup
            have HM3 := Aside0.mk HM'
            have HG := Aside0.mk hg
            replace p3 := eq_true p3
            replace q3 := eq_true q3
            have q4 := eq_true hj
            clear HM' hg HM hj c2 hxe
            go_wp2
            refine start_ (n := 7) (S := fun w' => (Instr.lookup 100 (.map (some gb)) (.int .i64 xe) false).run Try.prog w' = .ok (.int .u64 bv) w') (ds := [6]) #[false, false, false, false, false, false, false] (by kernel_rfl) rfl rfl (hlk) (fun hHeld => ?_)
            refine pure_ (i := 0) (N := some 27) (v := ?_) (a' := ?_) #[true, false, false, false, false, false, false] rfl rfl (by kernel_rfl) (fun _ _ _ h => h) (Or.inl ⟨by rfl, ?_⟩) ?_ ?_
            rotate_left
            · intro w'
              go_simp
              with_reducible rfl
            rotate_left
            · simp only [Act.put, List.setIfInBounds_toArray, List.set_cons_zero, List.set_cons_succ, i64_w, i32_w]
              rfl
            refine pure_ (i := 1) (N := some 28) (v := ?_) (a' := ?_) #[true, true, false, false, false, false, false] rfl rfl (by kernel_rfl) (fun _ _ _ h => h) (Or.inl ⟨by rfl, ?_⟩) ?_ ?_
            rotate_left
            · intro w'
              go_simp
              with_reducible rfl
            rotate_left
            · simp only [Act.put, List.setIfInBounds_toArray, List.set_cons_zero, List.set_cons_succ, i64_w, i32_w]
              rfl
            refine pure_ (i := 3) (N := some 30) (v := ?_) (a' := ?_) #[true, true, false, true, false, false, false] rfl rfl (by kernel_rfl) (fun _ _ _ h => h) (Or.inl ⟨by rfl, ?_⟩) ?_ ?_
            rotate_left
            · intro w'
              go_simp
              with_reducible rfl
            rotate_left
            · simp only [Act.put, List.setIfInBounds_toArray, List.set_cons_zero, List.set_cons_succ, i64_w, i32_w]
              rfl
            refine pure_ (i := 4) (N := some 31) (v := ?_) (a' := ?_) #[true, true, false, true, true, false, false] rfl rfl (by kernel_rfl) (fun _ _ _ h => h) (Or.inl ⟨by rfl, ?_⟩) ?_ ?_
            rotate_left
            · intro w'
              go_simp
              with_reducible rfl
            rotate_left
            · simp only [Act.put, List.setIfInBounds_toArray, List.set_cons_zero, List.set_cons_succ, i64_w, i32_w]
              rfl
            refine take_ (i := 2) (N := some 29) (v := ?_) (a' := ?_) #[true, true, true, true, true, false, false] rfl rfl (by kernel_rfl) (fun _ _ _ h => h) (Or.inl ⟨by rfl, ?_⟩) hHeld ?_ ?_
            rotate_left
            · intro w' s0
              go_simp
              with_reducible rfl
            rotate_left
            · simp only [Act.put, List.setIfInBounds_toArray, List.set_cons_zero, List.set_cons_succ, i64_w, i32_w]
              rfl
            refine pure_ (i := 5) (N := some 32) (v := ?_) (a' := ?_) #[true, true, true, true, true, true, false] rfl rfl (by kernel_rfl) (fun _ _ _ h => h) (Or.inl ⟨by rfl, ?_⟩) ?_ ?_
            rotate_left
            · intro w'
              go_simp
              with_reducible rfl
            rotate_left
            · simp only [Act.put, List.setIfInBounds_toArray, List.set_cons_zero, List.set_cons_succ, i64_w, i32_w]
              rfl
            refine last_ (i := 6) (N := none) #[true, true, true, true, true, true, true] rfl rfl (by kernel_rfl) (by decide) (fun K hK => ?_)
            refine skip_ (w1 := w1_) (by rfl) rfl ?_ ?_
            · exact run_update_op (by rfl) (by rfl) (by rfl) rfl hup
            refine hK.out _ _ ?_
            clear hK K
            refine done_ (by kernel_rfl) ?_
            go_wp2
            have hj2 := of_eq_true q4
            have hwj : wrap64 ((j : Int) + 1) = ((j + 1 : Nat) : Int) := by rw [w64 (by omega) (by have := HLEN.out; omega)]; omega
            go_roundw
            case measure => rw [hwj]; simp only [intOf, Int.toNat_natCast]; omega
            case rel => exact ⟨j + 1, by rw [hwj], ⟨by omega⟩, HM3, ⟨HB.out.drew.grown HG.out (by have := HB.out.size; rw [hgb] at this; exact this) (fun k hk => by cases hk; exact Nat.le_refl _)⟩⟩
          · have c2b : decide ((j : Int) < (m.length : Int)) = false := decide_eq_false c2
            have c2n : decide (j < m.length) = false := by simpa using c2
            go_wp2
            go_roundw
            case measure => simp [intOf]; omega
            case rel =>
              obtain rfl : j = m.length := by have := HJ.out; omega
              exact ⟨1 + 1, by go_num, ⟨by omega⟩, ⟨by simpa [MS] using HM.out⟩, HB⟩
    · have c1b : decide ((k : Int) < (ls.length : Int)) = false := decide_eq_false c1
      have c1n : decide (k < ls.length) = false := by simpa using c1
      have hD : BM wr gb l m := by
        have h0 := HM.out
        have hk : k = ls.length := by have := HK.out; omega
        rcases HN.out with ⟨h1, h2⟩ | h1
        · rw [hk, h1, if_pos (by decide)] at h0
          subst h2
          simpa [MS] using h0
        · rw [hk, h1, if_neg (by decide)] at h0
          exact h0
      obtain ⟨D, hown, hat0, hhas0⟩ := hD
      have HAT := Aside0.mk hat0
      have HHAS := Aside0.mk hhas0
      clear hat0 hhas0 HM HE HC HL1 HL0 HN HWL HWM
      go_wp2_with (first | (at_range; refine wpList_range_own _ rfl _ 100 rfl 3 80 law3 Try.underlying100 _ gb _ _ rfl hown ?_; intro w0 hrg0 hg0 hs0) | go_in)
      have HB0 := Aside0.mk (HB.out.grown hg0 (by have := HB.out.size; simpa [hgb] using this) (fun k hk => by cases hk))
      have HCN := Aside0.mk hown.size_le
      have hrl : gb ≤ wr.heap.size := by have := HB.out.size; simpa [hgb] using this
      clear hg0 hs0 hown HB
      generalize hrb : wr.heap.size = rb at *
      go_loopw [10] (fun v10 w' => ∃ (left : Lit → Bool) (cnt : Nat) (L : List Int), w'.ranges Try.prog 3 (plainElem Try.prog 80) gb rb (l.length + m.length) D left cnt ∧ Aside0 (Kd.R (Kd.int .i64) 3 w' gb (fun _ => True) v10 L) ∧ Aside0 (Seen p l m left L) ∧ Aside0 (L.length + cnt ≤ l.length + m.length) ∧ Aside0 (∀ z, left z = true → Maps.has D z = true) ∧ Aside0 (Below gb w w')) (fun _ w' => w'.rangeLeft gb rb)
      case atStart => exact ⟨_, _, [], hrg0, ⟨Kd.R_nil _ _ _ _ _⟩, ⟨seen_start HHAS.out⟩, ⟨by have := HCN.out; simpa using this⟩, ⟨fun z hz => hz⟩, HB0⟩
      case round =>
        clear hrg0 HB0
        obtain ⟨left, cnt, L, hrg, HR, HG, HLN, HLH, HB⟩ := hrel
        go_wp2_with (first | (at_next; refine wpList_next_ranges_ii _ rfl _ rfl 3 80 .i64 .u64 law3 Try.underlying3 Try.underlying80 gb rb _ _ _ _ rfl hrg ?_ ?_) | go_in)
        · intro hc0 hl0
          subst hc0
          have hsrt := Aside0.mk (seen_end HG.out hl0)
          clear hrg hl0
          go_wp2_with (go_at_call 59; refine (sort_own u10 L gb (fun _ => True) _ HR.out (by have := HLN.out; have := HLEN.out; omega)).mono ?_; rintro e w' ⟨rfl, HR', hg⟩)
          go_ret
          exact ⟨_, rfl, by rw [hgb, ← hsrt.out]; exact HR', by rw [hgb]; exact HB.out.grown hg (by have := HB.out.size; omega) (r_base HR.out)⟩
        · intro x c w1 cnt1 hwx hwc hlx hat hrg1 hlt hg1 hs1 hen
          have hc : c = bval l m x := by
            have h1 := hat (.lit (.int .u64 0))
            rw [HAT.out x] at h1
            injection h1 with h1
            injection h1 with _ h1
            exact h1.symm
          subst hc
          have hmem : x ∈ l ∨ x ∈ m := of_decide_eq_true ((HHAS.out x).symm.trans (HLH.out _ hlx))
          obtain ⟨hn1, hn2⟩ := ranges_ne hrg (Kd.R_typed HR.out)
          have HR1 := Aside0.mk (r_iter HR.out hg1 hn2)
          have HB1 := Aside0.mk (HB.out.grown hg1 (by have := HB.out.size; omega) (fun k hk => by cases hk; exact hrl))
          have HLH1 : Aside0 (∀ z, (left z && !z.sameKey (.int .i64 x)) = true → Maps.has D z = true) := ⟨fun z hz => HLH.out z (by simp only [Bool.and_eq_true] at hz; exact hz.1)⟩
          have hm0 := hrg.left_eq
          have HRG1 := Aside0.mk hrg1
          have HGR := HG
          have HSZ : Aside0 (gb ≤ wr.heap.size) := ⟨by have := HB.out.size; omega⟩
          clear hrg hat HR HB hn1 hn2 HLH hg1 hrg1 HG
          obtain ⟨px, hpx⟩ : ∃ q, p (bval l m x) = q := ⟨_, rfl⟩
          have HFx : Aside0 (∀ w, Calls Try.prog g #[.int .u64 (bval l m x)] w fun e w' => e = .returned (.bool px) ∧ Below w.heap.size w w') := ⟨fun w => by have := HF.out (bval l m x) w; rw [hpx] at this; exact this⟩
          generalize hbv : bval l m x = bv at *
          cases px with
          | false =>
            have HG1 := Aside0.mk (seen_no HGR.out hlx (by rw [hbv]; exact hpx))
            clear HGR hlx hmem hwx hwc
            go_wp2_with (first | (refine goesLv_ (fr := #[]) (some 44) rfl rfl hf hname hbody #[.int .u64 bv] rfl (by rfl) (by first | rfl | (simp; rfl) | simp) ?_; refine (HFx.out _).mono ?_; rintro e w2 ⟨rfl, hb⟩; refine ⟨_, rfl, ?_⟩; have HR2 := Aside0.mk (Kd.R_below HR1.out hb); have HRG2 := Aside0.mk (HRG1.out.kept (grown_of_below hb none) (by simp) (by simp)); have HB2 := Aside0.mk (below_then HB1.out (by have := HB1.out.size; omega) hb); clear HR1 HRG1 HB1 hb) | go_in)
            try go_frame
            have hrg2 := HRG2.out
            go_roundw
            case measure => rw [hrg2.left_eq, hm0]; exact hlt
            case rel => exact ⟨_, cnt1, L, hrg2, HR2, HG1, ⟨by have := HLN.out; omega⟩, HLH1, HB2⟩
          | true =>
            have HG1 := Aside0.mk (seen_yes HGR.out hlx hmem (by rw [hbv]; exact hpx))
            clear HGR hlx hmem hwx hwc
            go_wp2_with (first | (refine goesLv_ (fr := #[]) (some 44) rfl rfl hf hname hbody #[.int .u64 bv] rfl (by rfl) (by first | rfl | (simp; rfl) | simp) ?_; refine (HFx.out _).mono ?_; rintro e w2 ⟨rfl, hb⟩; refine ⟨_, rfl, ?_⟩; have HR2 := Aside0.mk (Kd.R_below HR1.out hb); have HRG2 := Aside0.mk (HRG1.out.kept (grown_of_below hb none) (by simp) (by simp)); have HB2 := Aside0.mk (below_then HB1.out (by have := HB1.out.size; omega) hb); clear HR1 HRG1 HB1 hb) | ((with_reducible refine gate_builtin (b := .append) (xs := #[.tmp 45, .tmp 47]) rfl ?_); at_builtin; refine Kd.R_append (Kd.int .i64) (w0 := w) gb rfl (.tmp 45) (.tmp 47) 26 3 (.int .i64 0) 8 rfl Try.underlying26 info3 rfl (by decide) (by omega) u10 L x [.int .i64 x] (fun _ => True) (fun _ => False) rfl rfl ?aP (fun _ hk => hk.elim) ?aF ?aO ?aB ?aS ?aL ?_; (case aP => exact rfl); (case aF => exact (fun _ _ => trivial)); (case aO => exact HR2.out); (case aB => exact HB2.out); (case aS => exact (by have := HB2.out.size; omega)); (case aL => have := HLN.out; have := HLEN.out; omega); intro v3_ w3 ho hb hg hat; have hne3 := ranges_ne HRG2.out (Kd.R_typed HR2.out); have HRG3 := Aside0.mk (HRG2.out.kept hg hne3.1 hne3.2); have HR3 := Aside0.mk ho; have HB3 := Aside0.mk hb; clear HR2 HRG2 HB2 ho hb hg hat hne3) | go_in)
            try go_frame
            have hrg3 := HRG3.out
            go_roundw
            case measure => rw [hrg3.left_eq, hm0]; exact hlt
            case rel => exact ⟨_, cnt1, L ++ [x], hrg3, HR3, HG1, ⟨by have := HLN.out; simp only [List.length_append, List.length_singleton]; omega⟩, HLH1, HB3⟩

end Go.Proofs.Ytlgkeaildncojaa.Q
end
section
namespace Go.Proofs.Ytlgkeaildncojaa.Q
open Go.RowKit Go.Proofs.YtlgkeaildncojaaW.PrintWords Go.Proofs.YtlgkeaildncojaaW.PrintLast Go.Proofs.YtlgkeaildncojaaW.PrintMore

theorem fit42 (x : Int) (w : World) : Calls Try.prog 42 #[.int .u64 x] w fun e w' => e = .returned (.bool ((fun _ => true) x)) ∧ Below w.heap.size w w' := by
  go_enter Try.func42, Try.ntmps42
  go_wp2
  go_ret
  exact ⟨rfl, Below.refl _ _⟩

/-- What the walks of sets ask of a list. -/
def okl (l : List Int) : Bool := decide (l.length < 1000000000) && l.all (fun x => decide (wrap64 x = x))
theorem okl_len {l : List Int} (h : okl l = true) : l.length < 1000000000 := by
  simp only [okl, Bool.and_eq_true, decide_eq_true_eq] at h
  exact h.1
theorem okl_wf {l : List Int} (h : okl l = true) : ∀ x ∈ l, (Lit.int .i64 x).wf = true := by
  simp only [okl, Bool.and_eq_true, List.all_eq_true, decide_eq_true_eq] at h
  intro x hx
  have h1 := h.2 x hx
  unfold wrap64 at h1
  have e1 : IntKind.i64.min = -9223372036854775808 := by decide
  have e2 : IntKind.i64.max = 9223372036854775807 := by decide
  simp only [Lit.wf, e1, e2, Bool.and_eq_true, decide_eq_true_eq]
  omega

/-- The block of a list of lists, just made. -/
theorem c_one {w : World} {A : Option Addr} {l : List Int} {c : Nat} (h : Kd.C (Kd.int .i64) w A l.length l) (hc : l.length ≤ c) : Kd.C (Kd.slice 3 (Kd.int .i64)) (w.alloc (.cells #[.slice A l.length c] 26)) (some ⟨w.heap.size, 0, none⟩) 1 [l] := by
  have hb : Below w.heap.size w (w.alloc (.cells #[.slice A l.length c] 26)) := (Below.refl _ _).alloc (Nat.le_refl _) _
  refine ⟨rfl, by omega, fun _ => ⟨_, rfl, fun j p hj => ?_⟩⟩
  cases j with
  | zero =>
    simp only [List.getElem?_cons_zero, Option.some.injEq] at hj
    subst hj
    refine ⟨[.slice A l.length c], rfl, ⟨A, c, rfl, hc, Kd.C_below h hb⟩, fun i u hu => ?_⟩
    cases i with
    | zero =>
      simp only [List.getElem?_cons_zero, Option.some.injEq] at hu
      subst hu
      exact (blk_cell (heap_alloc_new w _) 0).trans rfl
    | succ i => simp at hu
  | succ j => simp at hj
theorem hset_congr {l m : List Int} (h : ∀ y, y ∈ l ↔ y ∈ m) : hset l = hset m := sorted_ext _ _ (hset_sorted l) (hset_sorted m) (fun y => by rw [mem_hset, mem_hset]; exact h y)

def norm_f (l : List Int) : Option (List Int) := if okl l = true then some (hset l) else none
def join_f (l m : List Int) : Option (List Int) := if okl l = true ∧ okl m = true then some (hset (l ++ m)) else none
def meet_f (l m : List Int) : Option (List Int) := if okl l = true ∧ okl m = true then some (hset (l.filter fun x => decide (x ∈ m))) else none
def less_f (l m : List Int) : Option (List Int) := if okl l = true ∧ okl m = true then some (hset (l.filter fun x => decide (x ∉ m))) else none

theorem norm_calls (A0 : Option Addr) (c0 : Nat) (l0 : List Int) (r : List Int) (w : World) (hr0 : Kd.C (Kd.int .i64) w A0 l0.length l0) (hc0 : l0.length ≤ c0) (h : norm_f l0 = some r) :
    Calls Try.prog 29 #[.slice A0 l0.length c0] w fun e w' => ∃ v0_ : Value, e = .returned (v0_) ∧ Kd.R (Kd.int .i64) 3 w' w.heap.size (fun _ => True) v0_ r ∧ Below w.heap.size w w' := by
  unfold norm_f at h
  by_cases hk : okl l0 = true
  · rw [if_pos hk] at h
    obtain rfl := Option.some.inj h
    have hch := chosen_calls (fun _ => true) 42 Try.f42 Try.func42 rfl rfl fit42 (some ⟨w.heap.size, 0, none⟩) [l0] 1 _ l0 [] (c_one hr0 hc0) (Nat.le_refl _) (.inl ⟨rfl, rfl⟩) rfl (fun h => by cases h) (okl_wf hk) (fun x hx => by cases hx) (by have := okl_len hk; simp only [List.length_nil]; omega)
    have HCH := Aside0.mk hch
    have HB := (Below.refl w.heap.size w).alloc (Nat.le_refl _) (.cells #[.slice A0 l0.length c0] 26)
    clear hch hr0 h
    go_enter Try.func29, Try.ntmps29
    go_wp2_with (first | (go_at_call 41; (refine HCH.out.mono ?_); rintro e w3 ⟨v, rfl, ho, hb⟩) | go_in)
    go_ret
    have e : hset ((l0 ++ []).filter fun _ => true) = hset l0 := hset_congr (fun y => by simp)
    rw [e] at ho
    exact ⟨_, rfl, Kd.R_lower ho HB.size, below_then HB HB.size hb⟩
  · rw [if_neg hk] at h
    cases h
end Go.Proofs.Ytlgkeaildncojaa.Q
end
section
-- Written by wip/tools/myprint.py, a program of this session that drives the kit's print.py; not a text of print.sh.
namespace Go.Proofs.Ytlgkeaildncojaa.Q
open Go.RowKit Go.Proofs.YtlgkeaildncojaaW.PrintWords Go.Proofs.YtlgkeaildncojaaW.PrintLast Go.Proofs.YtlgkeaildncojaaW.PrintMore
attribute [local go_sem] max2_int min2_int max_two min_two max_three min_three max_four min_four   -- for this text's walks alone
set_option linter.unusedVariables false
set_option linter.unusedSimpArgs false

/-! ### sets_Norm: function 29 (by hand) -/

def sets_Norm.f (l : List Int) : Option (List Int) := norm_f l
theorem sets_Norm.calls (A0 : Option Addr) (c0 : Nat) (l0 : List Int) (r : List Int) (w : World) (hr0 : Kd.C (Kd.int .i64) w A0 l0.length l0) (hc0 : l0.length ≤ c0) (h : sets_Norm.f l0 = some r) :
    Calls Try.prog 29 #[.slice A0 l0.length c0] w fun e w' => ∃ v0_ : Value, e = .returned (v0_) ∧ Kd.R (Kd.int .i64) 3 w' w.heap.size (fun _ => True) v0_ r ∧ Below w.heap.size w w' := norm_calls A0 c0 l0 r w hr0 hc0 h


end Go.Proofs.Ytlgkeaildncojaa.Q
end
section
-- Written by wip/tools/myprint.py, a program of this session that drives the kit's print.py; not a text of print.sh.
namespace Go.Proofs.Ytlgkeaildncojaa.Q
open Go.RowKit Go.Proofs.YtlgkeaildncojaaW.PrintWords Go.Proofs.YtlgkeaildncojaaW.PrintLast Go.Proofs.YtlgkeaildncojaaW.PrintMore
attribute [local go_sem] max2_int min2_int max_two min_two max_three min_three max_four min_four   -- for this text's walks alone
set_option linter.unusedVariables false
set_option linter.unusedSimpArgs false

/-! ### rules_First: function 19 -/
def rules_First.l0 : Nat → List Int → List (S49) → Int → Int → Option (List Int)
  | 0, _, _, _, _ => none
  | k + 1, x3, x7, x8, x9 => if x9 < x8 then (if 0 ≤ x9 then (if x9 < (x7.length : Int) then (if (((rd_T49 x7 x9).f1).length : Int) > 0 then (if 0 < (((rd_T49 x7 x9).f1).length : Int) then (if x3.length + (rd_L1 ((rd_T49 x7 x9).f1) 0).length < 17592186044416 then (rules_First.l0 k (x3 ++ (rd_L1 ((rd_T49 x7 x9).f1) 0)) x7 x8 (wrap64 (x9 + 1))) else (none)) else (none)) else (rules_First.l0 k x3 x7 x8 (wrap64 (x9 + 1)))) else (none)) else (none)) else ((sets_Norm.f x3).bind fun t123 => (some t123))
def rules_First.f (k : Nat) (l0_0 : List (S49)) : Option (List Int) := rules_First.l0 k ([] : List Int) l0_0 (l0_0.length : Int) 0
theorem rules_First.mono_l : ∀ k, (∀ y0 y1 y2 y3, LeO (rules_First.l0 k y0 y1 y2 y3) (rules_First.l0 (k + 1) y0 y1 y2 y3))
  | 0 => fun _ _ _ _ r h => by simp [rules_First.l0] at h
  | k + 1 => by
    have ih0 := rules_First.mono_l k
    · intro y0 y1 y2 y3
      unfold rules_First.l0
      repeat' first
      | (with_reducible exact ih0 _ _ _ _)
      | (with_reducible exact LeO.refl _)
      | (with_reducible exact LeO.none _)
      | (with_reducible refine LeO.ite ?_ ?_)
      | (with_reducible refine LeO.bind ?_ (fun _ => ?_))
      | exact ih0 _ _ _ _
      | exact LeO.none _
      | refine LeO.ite ?_ ?_
      | refine LeO.bind ?_ (fun _ => ?_)
theorem rules_First.mono : ∀ a0 k, LeO (rules_First.f k a0) (rules_First.f (k + 1) a0) := by
  intro a0 k
  have ih0 := rules_First.mono_l k
  unfold rules_First.f
  repeat' first
      | (with_reducible exact ih0 _ _ _ _)
      | (with_reducible exact LeO.refl _)
      | (with_reducible exact LeO.none _)
      | (with_reducible refine LeO.ite ?_ ?_)
      | (with_reducible refine LeO.bind ?_ (fun _ => ?_))
      | exact ih0 _ _ _ _
      | exact LeO.none _
      | refine LeO.ite ?_ ?_
      | refine LeO.bind ?_ (fun _ => ?_)
set_option maxHeartbeats 8000000 in
set_option maxRecDepth 100000 in
theorem rules_First.calls (k : Nat) (A0_0 : Option Addr) (c0_0 : Nat) (l0_0 : List (S49)) (r : List Int) (w : World) (hr0_0 : Kd.C k49 w A0_0 l0_0.length l0_0) (hc0_0 : l0_0.length ≤ c0_0) (h : rules_First.f k l0_0 = some r) :
    Calls Try.prog 19 #[.agg #[.slice A0_0 l0_0.length c0_0]] w fun e w' => ∃ v0_ : Value, e = .returned (v0_) ∧ Kd.R (Kd.int .i64) 3 w' w.heap.size (fun _ => True) v0_ r ∧ Below w.heap.size w w' := by
  have hu24 := Try.underlying24
  have hu49 := Try.underlying49
  have HR0_0 := Aside0.mk hr0_0
  have HC0_0 := Aside0.mk hc0_0
  clear hr0_0 hc0_0
  have HB := Aside0.mk (Below.refl w.heap.size w)
  have H : (rules_First.l0 k ([] : List Int) l0_0 (l0_0.length : Int) 0) = some r := h
  clear h
  have H' := Aside0.mk H
  clear H
  go_enter Try.func19, Try.ntmps19
  go_wp2_with (first | ((with_reducible refine gate_dst (N := 1) rfl ?_); refine box_event ?hg (N := 1) ?hd (cs := #[.slice A0_0 l0_0.length c0_0]) (t := 24) ?hr ?_; (case hd => rfl); (case hg => rfl); (case hr => first | (go_simp; done) | (go_simp; rfl)); intro gb116 hg w2 hbox hb; have n0_ := Aside0.mk (below_step (by repeat (first | (with_reducible first | exact HB.out | apply below_alloc | apply pw_below_drewN | apply below_drew1) | exact HB.out)) hb); have n1_ := Aside0.mk (hbox); have n2_ := Aside0.mk ((by rw [hg]; exact (below_size (by repeat (first | (with_reducible first | exact HB.out | apply below_alloc | apply pw_below_drewN | apply below_drew1) | exact HB.out))) : w.heap.size ≤ gb116)); have n3_ := Aside0.mk ((by rw [hg]; exact (below_size (by repeat (first | (with_reducible first | exact HB.out | apply below_alloc | apply pw_below_drewN | apply below_drew1) | exact HB.out))) : w.heap.size ≤ gb116)); clear HB; have HB := n0_; have BK116 := n1_; have GW116 := n2_; have GE116 := n3_; clear n0_ n1_ n2_ n3_; clear hb hbox hg; have hcz3_0 : w2.cell? ⟨gb116, 0, none⟩ = some (.slice A0_0 l0_0.length c0_0) := (blk_cell BK116.out 0).trans rfl; have hfz3_0 := blk_frozen BK116.out 0))
  go_loopg [3, 9] k (fun kq v3 v9 w' => ∃ (x3_1 : List Int) (x9_1 : Int), v9 = .int .i64 x9_1 ∧ Aside0 (rules_First.l0 kq x3_1 l0_0 (l0_0.length : Int) x9_1 = some r) ∧ Aside0 (kq ≤ k) ∧ Aside0 (Kd.R (Kd.int .i64) 3 w' w.heap.size (fun _ => True) v3 x3_1) ∧ Aside0 (w'.heap[gb116]? = some (.cells #[(.slice A0_0 l0_0.length c0_0)] 24 (0, 0))) ∧ Aside0 (Below w.heap.size w w'))
  case atStart => exact ⟨(([] : List Int)), (0), (by first | rfl | (simp; done) | (simp [*]; done)), H', ⟨Nat.le_refl _⟩, ⟨by first | exact Kd.R_nil _ _ _ _ _ | exact Kd.N_nil _ _ _ _ _ | exact Kd.V_nil _ _ _ _ _ | exact Kd.Q_nil _ _ _ _ _ | exact Kd.S_nil _ _ _ _ _⟩, ⟨by (with_reducible repeat (first | refine blk_drewN ?_ _ | refine blk_drew ?_ | refine blk_alloc ?_ _)); exact BK116.out⟩, ⟨by repeat (first | (with_reducible first | exact HB.out | apply below_alloc | apply pw_below_drewN | apply below_drew1 | refine below_set ?_ GE116.out) | exact HB.out)⟩⟩
  case round =>
    clear H'
    try clear c1
    try clear p2
    try clear hcz3_0
    try clear hfz3_0
    obtain ⟨x3_1, x9_1, rfl, HA, HK1, HO_3, BK116, HB⟩ := hrel
    cases gk with
    | zero => exact absurd HA.out (by simp [rules_First.l0])
    | succ k1 =>
      have H := HA.out
      clear HA
      simp only [rules_First.l0] at H
      by_cases c4 : x9_1 < (l0_0.length : Int)
      · rw [if_pos c4] at H
        have c4b0 : decide (x9_1 < (l0_0.length : Int)) = true := decide_eq_true c4
        clear c4
        by_cases c5 : 0 ≤ x9_1
        · rw [if_pos c5] at H
          have c5b0 : decide (0 ≤ x9_1) = true := decide_eq_true c5
          clear c5
          by_cases c6 : x9_1 < (l0_0.length : Int)
          · rw [if_pos c6] at H
            have c6b0 : decide (x9_1 < (l0_0.length : Int)) = true := decide_eq_true c6
            clear c6
            by_cases c7 : (((rd_T49 l0_0 x9_1).f1).length : Int) > 0
            · rw [if_pos c7] at H
              have c7b0 : decide (0 < (((rd_T49 l0_0 x9_1).f1).length : Int)) = true := decide_eq_true c7
              have c7b1 : decide (0 < ((rd_T49 l0_0 x9_1).f1).length) = true := decide_eq_true (by omega)
              clear c7
              by_cases c8 : 0 < (((rd_T49 l0_0 x9_1).f1).length : Int)
              · rw [if_pos c8] at H
                have c8b0 : decide (0 < (((rd_T49 l0_0 x9_1).f1).length : Int)) = true := decide_eq_true c8
                have c8b1 : decide (0 < ((rd_T49 l0_0 x9_1).f1).length) = true := decide_eq_true (by omega)
                clear c8
                by_cases c9 : x3_1.length + (rd_L1 ((rd_T49 l0_0 x9_1).f1) 0).length < 17592186044416
                · rw [if_pos c9] at H
                  have LMc9 := Aside0.mk c9
                  clear c9
                  obtain ⟨y120, hy120⟩ : ∃ y_ : List Int, y_ = (x3_1 ++ (rd_L1 ((rd_T49 l0_0 x9_1).f1) 0)) := ⟨_, rfl⟩
                  replace H : (rules_First.l0 k1 y120 l0_0 (l0_0.length : Int) (wrap64 (x9_1 + 1))) = some r := by first | (rw [hy120]; with_reducible exact H) | (have H2_ := (Option.bind_some _ _).symm.trans H; rw [hy120]; with_reducible exact H2_) | (have H2_ := (Option.bind_some _ _).symm.trans H; with_reducible exact H2_) | with_reducible exact H | (rw [hy120]; exact H) | exact H
                  have Ny120 := Aside0.mk hy120
                  clear hy120
                  have H' := Aside0.mk H
                  clear H
                  have p117 : 0 ≤ (x9_1 : Int) := of_decide_eq_true (by first | (with_reducible assumption) | assumption)
                  have q117 : x9_1 < (l0_0.length : Int) := of_decide_eq_true (by first | (with_reducible assumption) | assumption)
                  obtain ⟨ad117, A117_0, c117_0, A117_1, c117_1, A117_2, c117_2, A117_3, c117_3, A117_4, c117_4, e117, hx117_0, hx117_1, hx117_2, hx117_3, hx117_4, hl117_0, hi117_0, hl117_1, hi117_1, hl117_2, hi117_2, hl117_3, hi117_3, hl117_4, hi117_4⟩ := at_T49 HR0_0.out x9_1 p117 q117
                  cases e117
                  replace hx117_0 := (HB.out.cell (World.block_lt_of_cell? w _ hx117_0)).trans hx117_0
                  replace hx117_1 := (HB.out.cell (World.block_lt_of_cell? w _ hx117_1)).trans hx117_1
                  replace hx117_2 := (HB.out.cell (World.block_lt_of_cell? w _ hx117_2)).trans hx117_2
                  replace hx117_3 := (HB.out.cell (World.block_lt_of_cell? w _ hx117_3)).trans hx117_3
                  replace hx117_4 := (HB.out.cell (World.block_lt_of_cell? w _ hx117_4)).trans hx117_4
                  have HR117_0 := Aside0.mk hi117_0
                  have HC117_0 := Aside0.mk hl117_0
                  clear hi117_0 hl117_0
                  have HR117_1 := Aside0.mk hi117_1
                  have HC117_1 := Aside0.mk hl117_1
                  clear hi117_1 hl117_1
                  have HR117_2 := Aside0.mk hi117_2
                  have HC117_2 := Aside0.mk hl117_2
                  clear hi117_2 hl117_2
                  have HR117_3 := Aside0.mk hi117_3
                  have HC117_3 := Aside0.mk hl117_3
                  clear hi117_3 hl117_3
                  have HR117_4 := Aside0.mk hi117_4
                  have HC117_4 := Aside0.mk hl117_4
                  clear hi117_4 hl117_4
                  replace p117 := eq_true p117
                  replace q117 := eq_true q117
                  go_wp2_with (first | ((with_reducible refine gate_dst (N := 5) rfl ?_); refine box_event ?hg (N := 5) ?hd (cs := #[.slice none 0 0, .slice none 0 0, .slice none 0 0, .slice none 0 0, .slice none 0 0]) (t := 49) ?hr ?_; (case hd => rfl); (case hg => rfl); (case hr => first | (go_simp; done) | (go_simp; rfl)); intro gb118 hg w10 hbox hb; have n0_ := Aside0.mk (Kd.R_below (by (with_reducible repeat (first | apply Kd.R_alloc | apply Kd.R_drewN | apply Kd.R_drew)); exact HO_3.out) hb); have n1_ := Aside0.mk (blk_below (g := gb116) (o := .cells #[.slice (some ad117) l0_0.length c0_0] 24 (0, 0)) (by (with_reducible repeat (first | refine blk_drewN ?_ _ | refine blk_drew ?_ | refine blk_alloc ?_ _)); exact BK116.out) hb); have n2_ := Aside0.mk (below_step (by repeat (first | (with_reducible first | exact HB.out | apply below_alloc | apply pw_below_drewN | apply below_drew1 | refine below_set ?_ GE116.out) | exact HB.out)) hb); have n3_ := Aside0.mk (hbox); have n4_ := Aside0.mk ((by rw [hg]; exact (below_size (by repeat (first | (with_reducible first | exact HB.out | apply below_alloc | apply pw_below_drewN | apply below_drew1 | refine below_set ?_ GE116.out) | exact HB.out))) : w.heap.size ≤ gb118)); have n5_ := Aside0.mk ((by rw [hg]; exact (below_size (by repeat (first | (with_reducible first | exact HB.out | apply below_alloc | apply pw_below_drewN | apply below_drew1 | refine below_set ?_ GE116.out) | exact HB.out))) : w.heap.size ≤ gb118)); have n6_ := Aside0.mk ((by rw [hg]; exact Nat.ne_of_lt (blk_lt (g := gb116) (o := .cells #[.slice (some ad117) l0_0.length c0_0] 24 (0, 0)) (by (with_reducible repeat (first | refine blk_drewN ?_ _ | refine blk_drew ?_ | refine blk_alloc ?_ _)); exact BK116.out)) : gb116 ≠ gb118)); have n7_ := Aside0.mk ((by rw [hg]; exact Nat.ne_of_gt (blk_lt (g := gb116) (o := .cells #[.slice (some ad117) l0_0.length c0_0] 24 (0, 0)) (by (with_reducible repeat (first | refine blk_drewN ?_ _ | refine blk_drew ?_ | refine blk_alloc ?_ _)); exact BK116.out)) : gb118 ≠ gb116)); clear HO_3; clear BK116; clear HB; have HO_3 := n0_; have BK116 := n1_; have HB := n2_; have BK118 := n3_; have GW118 := n4_; have GE118 := n5_; have NB116_118 := n6_; have NB118_116 := n7_; clear n0_ n1_ n2_ n3_ n4_ n5_ n6_ n7_; clear hb hbox hg; have hnb11 := NB118_116.out; have hnc11 := NB116_118.out; have hcz12_0 : w10.cell? ⟨gb118, 0, none⟩ = some (.slice none 0 0) := (blk_cell BK118.out 0).trans rfl; have hcz12_1 : w10.cell? ⟨gb118, 1, none⟩ = some (.slice none 0 0) := (blk_cell BK118.out 1).trans rfl; have hcz12_2 : w10.cell? ⟨gb118, 2, none⟩ = some (.slice none 0 0) := (blk_cell BK118.out 2).trans rfl; have hcz12_3 : w10.cell? ⟨gb118, 3, none⟩ = some (.slice none 0 0) := (blk_cell BK118.out 3).trans rfl; have hcz12_4 : w10.cell? ⟨gb118, 4, none⟩ = some (.slice none 0 0) := (blk_cell BK118.out 4).trans rfl; have hfz12_0 := blk_frozen BK118.out 0; have hfz12_1 := blk_frozen BK118.out 1; have hfz12_2 := blk_frozen BK118.out 2; have hfz12_3 := blk_frozen BK118.out 3; have hfz12_4 := blk_frozen BK118.out 4; have p119 : 0 ≤ (0 : Int) := (by omega); have q119 : 0 < (((rd_T49 l0_0 x9_1).f1).length : Int) := of_decide_eq_true (by first | (with_reducible assumption) | assumption); obtain ⟨ad119, A119_0, c119_0, e119, hx119_0, hl119_0, hi119_0⟩ := at_L1 HR117_1.out 0 p119 q119; cases e119; have qi119 : (0 < ((rd_T49 l0_0 x9_1).f1).length) = True := eq_true (by omega); (try rw [show ((0 : Int)).toNat = 0 from rfl] at hx119_0); (try rw [Addr.add_zero'] at hx119_0); have hn119_0 : ad119.block ≠ gb118 := Nat.ne_of_lt (Nat.lt_of_lt_of_le (by have := World.block_lt_of_cell? _ _ hx119_0; first | rwa [add_block] at this | exact this) GW118.out); have hn119_1 : ad119.block ≠ gb118 := Nat.ne_of_lt (Nat.lt_of_lt_of_le (by have := World.block_lt_of_cell? _ _ hx119_0; first | rwa [add_block] at this | exact this) GW118.out); have hn119_2 : ad119.block ≠ gb118 := Nat.ne_of_lt (Nat.lt_of_lt_of_le (by have := World.block_lt_of_cell? _ _ hx119_0; first | rwa [add_block] at this | exact this) GW118.out); have hn119_3 : ad119.block ≠ gb118 := Nat.ne_of_lt (Nat.lt_of_lt_of_le (by have := World.block_lt_of_cell? _ _ hx119_0; first | rwa [add_block] at this | exact this) GW118.out); have hn119_4 : ad119.block ≠ gb118 := Nat.ne_of_lt (Nat.lt_of_lt_of_le (by have := World.block_lt_of_cell? _ _ hx119_0; first | rwa [add_block] at this | exact this) GW118.out); replace hx119_0 := (HB.out.cell (World.block_lt_of_cell? w _ hx119_0)).trans hx119_0; have HR119_0 := Aside0.mk hi119_0; have HC119_0 := Aside0.mk hl119_0; clear hi119_0 hl119_0; replace hx119_0 := (cell_far (p := ⟨gb118, 0, none⟩) (by first | (rw [add_block]; exact hn119_0) | (show (Addr.add _ _).block ≠ _; rw [add_block]; exact hn119_0) | exact hn119_0) (.slice A117_0 ((rd_T49 l0_0 x9_1).f0).length c117_0)).trans hx119_0; replace hx119_0 := (cell_far (p := ⟨gb118, 1, none⟩) (by first | (rw [add_block]; exact hn119_1) | (show (Addr.add _ _).block ≠ _; rw [add_block]; exact hn119_1) | exact hn119_1) (.slice (some ad119) ((rd_T49 l0_0 x9_1).f1).length c117_1)).trans hx119_0; replace hx119_0 := (cell_far (p := ⟨gb118, 2, none⟩) (by first | (rw [add_block]; exact hn119_2) | (show (Addr.add _ _).block ≠ _; rw [add_block]; exact hn119_2) | exact hn119_2) (.slice A117_2 ((rd_T49 l0_0 x9_1).f2).length c117_2)).trans hx119_0; replace hx119_0 := (cell_far (p := ⟨gb118, 3, none⟩) (by first | (rw [add_block]; exact hn119_3) | (show (Addr.add _ _).block ≠ _; rw [add_block]; exact hn119_3) | exact hn119_3) (.slice A117_3 ((rd_T49 l0_0 x9_1).f3).length c117_3)).trans hx119_0; replace hx119_0 := (cell_far (p := ⟨gb118, 4, none⟩) (by first | (rw [add_block]; exact hn119_4) | (show (Addr.add _ _).block ≠ _; rw [add_block]; exact hn119_4) | exact hn119_4) (.slice A117_4 ((rd_T49 l0_0 x9_1).f4).length c117_4)).trans hx119_0; clear hn119_0; clear hn119_1; clear hn119_2; clear hn119_3; clear hn119_4; replace p119 := eq_true p119; replace q119 := eq_true q119) | ((with_reducible refine gate_builtin (b := .append) (xs := #[.tmp 17, .tmp 21]) rfl ?_); at_builtin; refine Kd.R_append_rows (Kd.int .i64) (w0 := w) w.heap.size rfl (.tmp 17) (.tmp 21) 26 3 (.int .i64 0) 8 rfl Try.underlying26 info3 rfl (by decide) (by omega) u3 x3_1 (rd_L1 ((rd_T49 l0_0 x9_1).f1) 0) _ _ _ (fun _ => True) (fun _ => False) rfl rfl ?aO ?aR (fun _ _ h => h) (fun _ h => h.elim) ?aF ?aB ?aS ?aL ?_; (case aR => exact Kd.C_below HR119_0.out (by repeat (first | (with_reducible first | exact HB.out | apply below_alloc | apply pw_below_drewN | apply below_drew1 | refine below_set ?_ GE116.out | refine below_set ?_ GE118.out) | exact HB.out))); (case aB => exact (by repeat (first | (with_reducible first | exact HB.out | apply below_alloc | apply pw_below_drewN | apply below_drew1 | refine below_set ?_ GE116.out | refine below_set ?_ GE118.out) | exact HB.out))); (case aF => exact (fun _ _ => trivial)); (case aO => exact (by (with_reducible repeat (first | apply Kd.R_alloc | apply Kd.R_drewN | apply Kd.R_drew)); exact Kd.R_mono (Kd.R_far (p := ⟨gb118, 4, none⟩) (Kd.R_far (p := ⟨gb118, 3, none⟩) (Kd.R_far (p := ⟨gb118, 2, none⟩) (Kd.R_far (p := ⟨gb118, 1, none⟩) (Kd.R_far (p := ⟨gb118, 0, none⟩) (Kd.R_types HO_3.out BK118.out (by decide)) (fun _ hk => hk.2) (.slice A117_0 ((rd_T49 l0_0 x9_1).f0).length c117_0)) (fun _ hk => hk.2) (.slice (some ad119) ((rd_T49 l0_0 x9_1).f1).length c117_1)) (fun _ hk => hk.2) (.slice A117_2 ((rd_T49 l0_0 x9_1).f2).length c117_2)) (fun _ hk => hk.2) (.slice A117_3 ((rd_T49 l0_0 x9_1).f3).length c117_3)) (fun _ hk => hk.2) (.slice A117_4 ((rd_T49 l0_0 x9_1).f4).length c117_4)) (fun _ hk => trivial))); (case aS => exact (below_size (by repeat (first | (with_reducible first | exact HB.out | apply below_alloc | apply pw_below_drewN | apply below_drew1 | refine below_set ?_ GE116.out | refine below_set ?_ GE118.out) | exact HB.out)))); (case aL => have := LMc9.out; omega); intro v121 w13 ho hb hg hat; rw [← Ny120.out] at ho; have n0_ := Aside0.mk (blk_grown (g := gb116) (o := .cells #[.slice (some ad117) l0_0.length c0_0] 24 (0, 0)) (by (with_reducible repeat (first | refine blk_drewN ?_ _ | refine blk_drew ?_ | refine blk_alloc ?_ _)); refine blk_far ?_ NB116_118.out _; (with_reducible repeat (first | refine blk_drewN ?_ _ | refine blk_drew ?_ | refine blk_alloc ?_ _)); refine blk_far ?_ NB116_118.out _; (with_reducible repeat (first | refine blk_drewN ?_ _ | refine blk_drew ?_ | refine blk_alloc ?_ _)); refine blk_far ?_ NB116_118.out _; (with_reducible repeat (first | refine blk_drewN ?_ _ | refine blk_drew ?_ | refine blk_alloc ?_ _)); refine blk_far ?_ NB116_118.out _; (with_reducible repeat (first | refine blk_drewN ?_ _ | refine blk_drew ?_ | refine blk_alloc ?_ _)); refine blk_far ?_ NB116_118.out _; (with_reducible repeat (first | refine blk_drewN ?_ _ | refine blk_drew ?_ | refine blk_alloc ?_ _)); exact BK116.out) hg (Kd.R_ne HO_3.out BK116.out (by decide))); have n1_ := Aside0.mk (blk_grown (g := gb118) (o := .cells #[.slice A117_0 ((rd_T49 l0_0 x9_1).f0).length c117_0, .slice (some ad119) ((rd_T49 l0_0 x9_1).f1).length c117_1, .slice A117_2 ((rd_T49 l0_0 x9_1).f2).length c117_2, .slice A117_3 ((rd_T49 l0_0 x9_1).f3).length c117_3, .slice A117_4 ((rd_T49 l0_0 x9_1).f4).length c117_4] 49 (0, 0)) (by (with_reducible repeat (first | refine blk_drewN ?_ _ | refine blk_drew ?_ | refine blk_alloc ?_ _)); refine blk_put (cs := #[.slice A117_0 ((rd_T49 l0_0 x9_1).f0).length c117_0, .slice (some ad119) ((rd_T49 l0_0 x9_1).f1).length c117_1, .slice A117_2 ((rd_T49 l0_0 x9_1).f2).length c117_2, .slice A117_3 ((rd_T49 l0_0 x9_1).f3).length c117_3, .slice none 0 0]) ?_ 4 _ rfl; (with_reducible repeat (first | refine blk_drewN ?_ _ | refine blk_drew ?_ | refine blk_alloc ?_ _)); refine blk_put (cs := #[.slice A117_0 ((rd_T49 l0_0 x9_1).f0).length c117_0, .slice (some ad119) ((rd_T49 l0_0 x9_1).f1).length c117_1, .slice A117_2 ((rd_T49 l0_0 x9_1).f2).length c117_2, .slice none 0 0, .slice none 0 0]) ?_ 3 _ rfl; (with_reducible repeat (first | refine blk_drewN ?_ _ | refine blk_drew ?_ | refine blk_alloc ?_ _)); refine blk_put (cs := #[.slice A117_0 ((rd_T49 l0_0 x9_1).f0).length c117_0, .slice (some ad119) ((rd_T49 l0_0 x9_1).f1).length c117_1, .slice none 0 0, .slice none 0 0, .slice none 0 0]) ?_ 2 _ rfl; (with_reducible repeat (first | refine blk_drewN ?_ _ | refine blk_drew ?_ | refine blk_alloc ?_ _)); refine blk_put (cs := #[.slice A117_0 ((rd_T49 l0_0 x9_1).f0).length c117_0, .slice none 0 0, .slice none 0 0, .slice none 0 0, .slice none 0 0]) ?_ 1 _ rfl; (with_reducible repeat (first | refine blk_drewN ?_ _ | refine blk_drew ?_ | refine blk_alloc ?_ _)); refine blk_put (cs := #[.slice none 0 0, .slice none 0 0, .slice none 0 0, .slice none 0 0, .slice none 0 0]) ?_ 0 _ rfl; (with_reducible repeat (first | refine blk_drewN ?_ _ | refine blk_drew ?_ | refine blk_alloc ?_ _)); exact BK118.out) hg (Kd.R_ne HO_3.out BK118.out (by decide))); have n2_ := Aside0.mk (hb); have n3_ := Aside0.mk (ho); clear BK116; clear BK118; clear HB; clear HO_3; have BK116 := n0_; have BK118 := n1_; have HB := n2_; have HO122 := n3_; clear n0_ n1_ n2_ n3_; clear ho hb hg hat))
                  go_roundg k1
                  case measure => have := HK1.out; omega
                  case rel => exact ⟨(y120), (wrap64 (x9_1 + 1)), (by first | rfl | (simp; done) | (simp [*]; done)), H', ⟨by have := HK1.out; omega⟩, ⟨by (with_reducible repeat (first | apply Kd.R_alloc | apply Kd.R_drewN | apply Kd.R_drew)); exact HO122.out⟩, ⟨by (with_reducible repeat (first | refine blk_drewN ?_ _ | refine blk_drew ?_ | refine blk_alloc ?_ _)); exact BK116.out⟩, ⟨by repeat (first | (with_reducible first | exact HB.out | apply below_alloc | apply pw_below_drewN | apply below_drew1 | refine below_set ?_ GE116.out | refine below_set ?_ GE118.out) | exact HB.out)⟩⟩
                · rw [if_neg c9] at H
                  exact absurd H (by simp)
              · rw [if_neg c8] at H
                exact absurd H (by simp)
            · rw [if_neg c7] at H
              have c7b0 : decide (0 < (((rd_T49 l0_0 x9_1).f1).length : Int)) = false := decide_eq_false c7
              have c7b1 : decide (0 < ((rd_T49 l0_0 x9_1).f1).length) = false := decide_eq_false (by omega)
              clear c7
              have H' := Aside0.mk H
              clear H
              have p117 : 0 ≤ (x9_1 : Int) := of_decide_eq_true (by first | (with_reducible assumption) | assumption)
              have q117 : x9_1 < (l0_0.length : Int) := of_decide_eq_true (by first | (with_reducible assumption) | assumption)
              obtain ⟨ad117, A117_0, c117_0, A117_1, c117_1, A117_2, c117_2, A117_3, c117_3, A117_4, c117_4, e117, hx117_0, hx117_1, hx117_2, hx117_3, hx117_4, hl117_0, hi117_0, hl117_1, hi117_1, hl117_2, hi117_2, hl117_3, hi117_3, hl117_4, hi117_4⟩ := at_T49 HR0_0.out x9_1 p117 q117
              cases e117
              replace hx117_0 := (HB.out.cell (World.block_lt_of_cell? w _ hx117_0)).trans hx117_0
              replace hx117_1 := (HB.out.cell (World.block_lt_of_cell? w _ hx117_1)).trans hx117_1
              replace hx117_2 := (HB.out.cell (World.block_lt_of_cell? w _ hx117_2)).trans hx117_2
              replace hx117_3 := (HB.out.cell (World.block_lt_of_cell? w _ hx117_3)).trans hx117_3
              replace hx117_4 := (HB.out.cell (World.block_lt_of_cell? w _ hx117_4)).trans hx117_4
              have HR117_0 := Aside0.mk hi117_0
              have HC117_0 := Aside0.mk hl117_0
              clear hi117_0 hl117_0
              have HR117_1 := Aside0.mk hi117_1
              have HC117_1 := Aside0.mk hl117_1
              clear hi117_1 hl117_1
              have HR117_2 := Aside0.mk hi117_2
              have HC117_2 := Aside0.mk hl117_2
              clear hi117_2 hl117_2
              have HR117_3 := Aside0.mk hi117_3
              have HC117_3 := Aside0.mk hl117_3
              clear hi117_3 hl117_3
              have HR117_4 := Aside0.mk hi117_4
              have HC117_4 := Aside0.mk hl117_4
              clear hi117_4 hl117_4
              replace p117 := eq_true p117
              replace q117 := eq_true q117
              go_wp2_with (first | ((with_reducible refine gate_dst (N := 5) rfl ?_); refine box_event ?hg (N := 5) ?hd (cs := #[.slice none 0 0, .slice none 0 0, .slice none 0 0, .slice none 0 0, .slice none 0 0]) (t := 49) ?hr ?_; (case hd => rfl); (case hg => rfl); (case hr => first | (go_simp; done) | (go_simp; rfl)); intro gb118 hg w14 hbox hb; have n0_ := Aside0.mk (Kd.R_below (by (with_reducible repeat (first | apply Kd.R_alloc | apply Kd.R_drewN | apply Kd.R_drew)); exact HO_3.out) hb); have n1_ := Aside0.mk (blk_below (g := gb116) (o := .cells #[.slice (some ad117) l0_0.length c0_0] 24 (0, 0)) (by (with_reducible repeat (first | refine blk_drewN ?_ _ | refine blk_drew ?_ | refine blk_alloc ?_ _)); exact BK116.out) hb); have n2_ := Aside0.mk (below_step (by repeat (first | (with_reducible first | exact HB.out | apply below_alloc | apply pw_below_drewN | apply below_drew1 | refine below_set ?_ GE116.out) | exact HB.out)) hb); have n3_ := Aside0.mk (hbox); have n4_ := Aside0.mk ((by rw [hg]; exact (below_size (by repeat (first | (with_reducible first | exact HB.out | apply below_alloc | apply pw_below_drewN | apply below_drew1 | refine below_set ?_ GE116.out) | exact HB.out))) : w.heap.size ≤ gb118)); have n5_ := Aside0.mk ((by rw [hg]; exact (below_size (by repeat (first | (with_reducible first | exact HB.out | apply below_alloc | apply pw_below_drewN | apply below_drew1 | refine below_set ?_ GE116.out) | exact HB.out))) : w.heap.size ≤ gb118)); have n6_ := Aside0.mk ((by rw [hg]; exact Nat.ne_of_lt (blk_lt (g := gb116) (o := .cells #[.slice (some ad117) l0_0.length c0_0] 24 (0, 0)) (by (with_reducible repeat (first | refine blk_drewN ?_ _ | refine blk_drew ?_ | refine blk_alloc ?_ _)); exact BK116.out)) : gb116 ≠ gb118)); have n7_ := Aside0.mk ((by rw [hg]; exact Nat.ne_of_gt (blk_lt (g := gb116) (o := .cells #[.slice (some ad117) l0_0.length c0_0] 24 (0, 0)) (by (with_reducible repeat (first | refine blk_drewN ?_ _ | refine blk_drew ?_ | refine blk_alloc ?_ _)); exact BK116.out)) : gb118 ≠ gb116)); clear HO_3; clear BK116; clear HB; have HO_3 := n0_; have BK116 := n1_; have HB := n2_; have BK118 := n3_; have GW118 := n4_; have GE118 := n5_; have NB116_118 := n6_; have NB118_116 := n7_; clear n0_ n1_ n2_ n3_ n4_ n5_ n6_ n7_; clear hb hbox hg; have hnb15 := NB118_116.out; have hnc15 := NB116_118.out; have hcz16_0 : w14.cell? ⟨gb118, 0, none⟩ = some (.slice none 0 0) := (blk_cell BK118.out 0).trans rfl; have hcz16_1 : w14.cell? ⟨gb118, 1, none⟩ = some (.slice none 0 0) := (blk_cell BK118.out 1).trans rfl; have hcz16_2 : w14.cell? ⟨gb118, 2, none⟩ = some (.slice none 0 0) := (blk_cell BK118.out 2).trans rfl; have hcz16_3 : w14.cell? ⟨gb118, 3, none⟩ = some (.slice none 0 0) := (blk_cell BK118.out 3).trans rfl; have hcz16_4 : w14.cell? ⟨gb118, 4, none⟩ = some (.slice none 0 0) := (blk_cell BK118.out 4).trans rfl; have hfz16_0 := blk_frozen BK118.out 0; have hfz16_1 := blk_frozen BK118.out 1; have hfz16_2 := blk_frozen BK118.out 2; have hfz16_3 := blk_frozen BK118.out 3; have hfz16_4 := blk_frozen BK118.out 4))
              go_roundg k1
              case measure => have := HK1.out; omega
              case rel => exact ⟨(x3_1), (wrap64 (x9_1 + 1)), (by first | rfl | (simp; done) | (simp [*]; done)), H', ⟨by have := HK1.out; omega⟩, ⟨by (with_reducible repeat (first | apply Kd.R_alloc | apply Kd.R_drewN | apply Kd.R_drew)); exact Kd.R_mono (Kd.R_far (p := ⟨gb118, 4, none⟩) (Kd.R_far (p := ⟨gb118, 3, none⟩) (Kd.R_far (p := ⟨gb118, 2, none⟩) (Kd.R_far (p := ⟨gb118, 1, none⟩) (Kd.R_far (p := ⟨gb118, 0, none⟩) (Kd.R_types HO_3.out BK118.out (by decide)) (fun _ hk => hk.2) (.slice A117_0 ((rd_T49 l0_0 x9_1).f0).length c117_0)) (fun _ hk => hk.2) (.slice A117_1 ((rd_T49 l0_0 x9_1).f1).length c117_1)) (fun _ hk => hk.2) (.slice A117_2 ((rd_T49 l0_0 x9_1).f2).length c117_2)) (fun _ hk => hk.2) (.slice A117_3 ((rd_T49 l0_0 x9_1).f3).length c117_3)) (fun _ hk => hk.2) (.slice A117_4 ((rd_T49 l0_0 x9_1).f4).length c117_4)) (fun _ hk => trivial)⟩, ⟨by (with_reducible repeat (first | refine blk_drewN ?_ _ | refine blk_drew ?_ | refine blk_alloc ?_ _)); refine blk_far ?_ NB116_118.out _; (with_reducible repeat (first | refine blk_drewN ?_ _ | refine blk_drew ?_ | refine blk_alloc ?_ _)); refine blk_far ?_ NB116_118.out _; (with_reducible repeat (first | refine blk_drewN ?_ _ | refine blk_drew ?_ | refine blk_alloc ?_ _)); refine blk_far ?_ NB116_118.out _; (with_reducible repeat (first | refine blk_drewN ?_ _ | refine blk_drew ?_ | refine blk_alloc ?_ _)); refine blk_far ?_ NB116_118.out _; (with_reducible repeat (first | refine blk_drewN ?_ _ | refine blk_drew ?_ | refine blk_alloc ?_ _)); refine blk_far ?_ NB116_118.out _; (with_reducible repeat (first | refine blk_drewN ?_ _ | refine blk_drew ?_ | refine blk_alloc ?_ _)); exact BK116.out⟩, ⟨by repeat (first | (with_reducible first | exact HB.out | apply below_alloc | apply pw_below_drewN | apply below_drew1 | refine below_set ?_ GE116.out | refine below_set ?_ GE118.out) | exact HB.out)⟩⟩
          · rw [if_neg c6] at H
            exact absurd H (by simp)
        · rw [if_neg c5] at H
          exact absurd H (by simp)
      · rw [if_neg c4] at H
        have c4b0 : decide (x9_1 < (l0_0.length : Int)) = false := decide_eq_false c4
        clear c4
        replace H := Option.bind_eq_some_iff.mp H
        obtain ⟨t123, A170, H⟩ := H
        replace H : (some t123) = some r := H
        have A17 := Aside0.mk A170
        clear A170
        obtain rfl := Option.some.inj H
        obtain ⟨Ao18, co18, eo18⟩ := Kd.R_slice HO_3.out
        subst eo18
        go_wp2_with (first | ((with_reducible refine gate_callee (f := 29) rfl ?_); refine goesL_ (some 25) rfl rfl Try.func29 (by kernel_rfl) rfl #[.slice Ao18 x3_1.length co18] rfl (by (try simp only [List.map_toArray, List.map_cons, List.map_nil]); first | done | rfl | (simp only [List.length_drop, List.length_take]; rfl)) ?_; (with_reducible refine (sets_Norm.calls _ _ x3_1 t123 _ ?side1 ?side2 A17.out).mono ?_); (case side1 => repeat (first | exact (Kd.R_reads' HO_3.out).2.2 | (with_reducible refine Kd.C_alloc ?_ _) | (with_reducible refine Kd.C_drewN ?_ _) | (with_reducible refine Kd.C_drew ?_))); (case side2 => exact (Kd.R_reads' HO_3.out).2.1); rintro e w19 ⟨v124, rfl, ho0, hb⟩; refine ⟨_, rfl, ?_⟩; have n0_ := Aside0.mk (Kd.R_elder' (by (with_reducible repeat (first | apply Kd.R_alloc | apply Kd.R_drewN | apply Kd.R_drew)); exact HO_3.out) (Kd.R_base ho0) hb); have n1_ := Aside0.mk (Kd.R_lower (Kd.R_new' ho0 (Kd.R_lt (by (with_reducible repeat (first | apply Kd.R_alloc | apply Kd.R_drewN | apply Kd.R_drew)); exact HO_3.out))) (below_size (by repeat (first | (with_reducible first | exact HB.out | apply below_alloc | apply pw_below_drewN | apply below_drew1 | refine below_set ?_ GE116.out) | exact HB.out)))); have n2_ := Aside0.mk (blk_below (g := gb116) (o := .cells #[.slice A0_0 l0_0.length c0_0] 24 (0, 0)) (by (with_reducible repeat (first | refine blk_drewN ?_ _ | refine blk_drew ?_ | refine blk_alloc ?_ _)); exact BK116.out) hb); have n3_ := Aside0.mk (below_step (by repeat (first | (with_reducible first | exact HB.out | apply below_alloc | apply pw_below_drewN | apply below_drew1 | refine below_set ?_ GE116.out) | exact HB.out)) hb); clear HO_3; clear BK116; clear HB; have HO_3 := n0_; have HO125 := n1_; have BK116 := n2_; have HB := n3_; clear n0_ n1_ n2_ n3_; (try clear hb); (try clear hb2); (try clear hk); (try clear hi); (try clear ho0)))
        go_ret
        exact ⟨_, by first | rfl | (simp [errW_none, errW_some] <;> rfl) | (simp [*, errW_none, errW_some] <;> rfl), by (with_reducible repeat (first | apply Kd.R_alloc | apply Kd.R_drewN | apply Kd.R_drew)); exact Kd.R_mono HO125.out (fun _ hk => trivial), by repeat (first | (with_reducible first | exact HB.out | apply below_alloc | apply pw_below_drewN | apply below_drew1 | refine below_set ?_ GE116.out) | exact HB.out)⟩

/-! ### slices_Index_int_int: function 55 -/
def slices_Index_int_int.l0 : Nat → List Int → Int → Int → Int → Option (Int)
  | 0, _, _, _, _ => none
  | k + 1, x0, x1, x7, x8 => if x8 < x7 then (if 0 ≤ x8 then (if x8 < (x0.length : Int) then (if x1 = (rd x0 x8) then (some x8) else (slices_Index_int_int.l0 k x0 x1 x7 (wrap64 (x8 + 1)))) else (none)) else (none)) else (some (-1))
def slices_Index_int_int.f (k : Nat) (l0 : List Int) (a1 : Int) : Option (Int) := slices_Index_int_int.l0 k l0 a1 (l0.length : Int) 0
theorem slices_Index_int_int.mono_l : ∀ k, (∀ y0 y1 y2 y3, LeO (slices_Index_int_int.l0 k y0 y1 y2 y3) (slices_Index_int_int.l0 (k + 1) y0 y1 y2 y3))
  | 0 => fun _ _ _ _ r h => by simp [slices_Index_int_int.l0] at h
  | k + 1 => by
    have ih0 := slices_Index_int_int.mono_l k
    · intro y0 y1 y2 y3
      unfold slices_Index_int_int.l0
      repeat' first
      | (with_reducible exact ih0 _ _ _ _)
      | (with_reducible exact LeO.refl _)
      | (with_reducible exact LeO.none _)
      | (with_reducible refine LeO.ite ?_ ?_)
      | (with_reducible refine LeO.bind ?_ (fun _ => ?_))
      | exact ih0 _ _ _ _
      | exact LeO.none _
      | refine LeO.ite ?_ ?_
      | refine LeO.bind ?_ (fun _ => ?_)
theorem slices_Index_int_int.mono : ∀ a0 a1 k, LeO (slices_Index_int_int.f k a0 a1) (slices_Index_int_int.f (k + 1) a0 a1) := by
  intro a0 a1 k
  have ih0 := slices_Index_int_int.mono_l k
  unfold slices_Index_int_int.f
  repeat' first
      | (with_reducible exact ih0 _ _ _ _)
      | (with_reducible exact LeO.refl _)
      | (with_reducible exact LeO.none _)
      | (with_reducible refine LeO.ite ?_ ?_)
      | (with_reducible refine LeO.bind ?_ (fun _ => ?_))
      | exact ih0 _ _ _ _
      | exact LeO.none _
      | refine LeO.ite ?_ ?_
      | refine LeO.bind ?_ (fun _ => ?_)
set_option maxHeartbeats 8000000 in
set_option maxRecDepth 100000 in
theorem slices_Index_int_int.calls (k : Nat) (A0 : Option Addr) (c0 : Nat) (l0 : List Int) (a1 : Int) (r : Int) (w : World) (hr0 : Kd.C (Kd.int .i64) w A0 l0.length l0) (hc0 : l0.length ≤ c0) (h : slices_Index_int_int.f k l0 a1 = some r) :
    Calls Try.prog 55 #[.slice A0 l0.length c0, .int .i64 a1] w fun e w' => e = .returned (.int .i64 r) ∧ Drawn0 w w' := by
  have HR0 := Aside0.mk hr0
  have HC0 := Aside0.mk hc0
  clear hr0 hc0
  have H : (slices_Index_int_int.l0 k l0 a1 (l0.length : Int) 0) = some r := h
  clear h
  have H' := Aside0.mk H
  clear H
  go_enter Try.func55, Try.ntmps55
  go_wp2
  go_loopg [8] k (fun kq v8 w' => ∃ (x8_1 : Int), v8 = .int .i64 x8_1 ∧ Aside0 (slices_Index_int_int.l0 kq l0 a1 (l0.length : Int) x8_1 = some r) ∧ Aside0 (kq ≤ k) ∧ Drawn0 w w')
  case atStart => exact ⟨(0), (by first | rfl | (simp; done) | (simp [*]; done)), H', ⟨Nat.le_refl _⟩, by repeat (first | exact Drawn0.refl _ | apply Drawn0.step)⟩
  case round =>
    clear H'
    try clear p2
    obtain ⟨x8_1, rfl, HA, HK1, ⟨m1, rfl⟩⟩ := hrel
    cases gk with
    | zero => exact absurd HA.out (by simp [slices_Index_int_int.l0])
    | succ k1 =>
      have H := HA.out
      clear HA
      simp only [slices_Index_int_int.l0] at H
      by_cases c3 : x8_1 < (l0.length : Int)
      · rw [if_pos c3] at H
        have c3b0 : decide (x8_1 < (l0.length : Int)) = true := decide_eq_true c3
        clear c3
        by_cases c4 : 0 ≤ x8_1
        · rw [if_pos c4] at H
          have c4b0 : decide (0 ≤ x8_1) = true := decide_eq_true c4
          clear c4
          by_cases c5 : x8_1 < (l0.length : Int)
          · rw [if_pos c5] at H
            have c5b0 : decide (x8_1 < (l0.length : Int)) = true := decide_eq_true c5
            clear c5
            by_cases c6 : a1 = (rd l0 x8_1)
            · rw [if_pos c6] at H
              have c6b0 : (a1 == (rd l0 x8_1)) = true := beq_iff_eq.mpr c6
              have c6b1 : (a1 != (rd l0 x8_1)) = false := bne_eq_false_iff_eq.mpr c6
              clear c6
              obtain rfl := Option.some.inj H
              have p126 : 0 ≤ (x8_1 : Int) := of_decide_eq_true (by first | (with_reducible assumption) | assumption)
              have q126 : x8_1 < (l0.length : Int) := of_decide_eq_true (by first | (with_reducible assumption) | assumption)
              obtain ⟨ad126, e126, hx126_0⟩ := Kd.at_int HR0.out x8_1 p126 q126
              cases e126
              replace p126 := eq_true p126
              replace q126 := eq_true q126
              go_wp2
              go_ret
              exact ⟨by first | rfl | (simp; done) | (simp [*]; done), by repeat (first | exact Drawn0.refl _ | apply Drawn0.step)⟩
            · rw [if_neg c6] at H
              have c6b0 : (a1 == (rd l0 x8_1)) = false := beq_eq_false_iff_ne.mpr c6
              have c6b1 : (a1 != (rd l0 x8_1)) = true := bne_iff_ne.mpr c6
              have H' := Aside0.mk H
              clear H
              have p126 : 0 ≤ (x8_1 : Int) := of_decide_eq_true (by first | (with_reducible assumption) | assumption)
              have q126 : x8_1 < (l0.length : Int) := of_decide_eq_true (by first | (with_reducible assumption) | assumption)
              obtain ⟨ad126, e126, hx126_0⟩ := Kd.at_int HR0.out x8_1 p126 q126
              cases e126
              replace p126 := eq_true p126
              replace q126 := eq_true q126
              go_wp2
              go_roundg k1
              case measure => have := HK1.out; omega
              case rel => exact ⟨(wrap64 (x8_1 + 1)), (by first | rfl | (simp; done) | (simp [*]; done)), H', ⟨by have := HK1.out; omega⟩, by repeat (first | exact Drawn0.refl _ | apply Drawn0.step)⟩
          · rw [if_neg c5] at H
            exact absurd H (by simp)
        · rw [if_neg c4] at H
          exact absurd H (by simp)
      · rw [if_neg c3] at H
        have c3b0 : decide (x8_1 < (l0.length : Int)) = false := decide_eq_false c3
        clear c3
        obtain rfl := Option.some.inj H
        go_wp2
        go_ret
        exact ⟨by first | rfl | (simp; done) | (simp [*]; done), by repeat (first | exact Drawn0.refl _ | apply Drawn0.step)⟩

/-! ### slices_Contains_int_int: function 37 -/
def slices_Contains_int_int.f (k : Nat) (l0 : List Int) (a1 : Int) : Option (Bool) := (slices_Index_int_int.f k l0 a1).bind fun t127 => (some (decide (t127 ≥ 0)))
theorem slices_Contains_int_int.mono : ∀ a0 a1 k, LeO (slices_Contains_int_int.f k a0 a1) (slices_Contains_int_int.f (k + 1) a0 a1) := by
  intro a0 a1 k
  unfold slices_Contains_int_int.f
  repeat' first
      | (with_reducible exact slices_Index_int_int.mono _ _ _)
      | (with_reducible exact LeO.refl _)
      | (with_reducible exact LeO.none _)
      | (with_reducible refine LeO.ite ?_ ?_)
      | (with_reducible refine LeO.bind ?_ (fun _ => ?_))
      | exact slices_Index_int_int.mono _ _ _
      | exact LeO.none _
      | refine LeO.ite ?_ ?_
      | refine LeO.bind ?_ (fun _ => ?_)
set_option maxHeartbeats 8000000 in
set_option maxRecDepth 100000 in
theorem slices_Contains_int_int.calls (k : Nat) (A0 : Option Addr) (c0 : Nat) (l0 : List Int) (a1 : Int) (r : Bool) (w : World) (hr0 : Kd.C (Kd.int .i64) w A0 l0.length l0) (hc0 : l0.length ≤ c0) (h : slices_Contains_int_int.f k l0 a1 = some r) :
    Calls Try.prog 37 #[.slice A0 l0.length c0, .int .i64 a1] w fun e w' => e = .returned (.bool r) ∧ Drawn0 w w' := by
  have HR0 := Aside0.mk hr0
  have HC0 := Aside0.mk hc0
  clear hr0 hc0
  have H : ((slices_Index_int_int.f k l0 a1).bind fun t127 => (some (decide (t127 ≥ 0)))) = some r := h
  clear h
  replace H := Option.bind_eq_some_iff.mp H
  obtain ⟨t127, A30, H⟩ := H
  replace H : (some (decide (t127 ≥ 0))) = some r := H
  have A3 := Aside0.mk A30
  clear A30
  obtain rfl := Option.some.inj H
  go_enter Try.func37, Try.ntmps37
  go_wp2_with (first | ((with_reducible refine gate_callee (f := 55) rfl ?_); refine goesL_ (some 7) rfl rfl Try.func55 (by kernel_rfl) rfl #[.slice A0 l0.length c0, .int .i64 a1] rfl (by (try simp only [List.map_toArray, List.map_cons, List.map_nil]); first | done | rfl | (simp only [List.length_drop, List.length_take]; rfl)) ?_; (with_reducible refine (slices_Index_int_int.calls k _ _ l0 a1 t127 _ ?side1 ?side2 A3.out).mono ?_); (case side1 => repeat (first | exact HR0.out | (with_reducible refine Kd.C_alloc ?_ _) | (with_reducible refine Kd.C_drewN ?_ _) | (with_reducible refine Kd.C_drew ?_))); (case side2 => exact HC0.out); rintro e w' ⟨rfl, ⟨nd, rfl⟩⟩; refine ⟨_, rfl, ?_⟩))
  go_ret
  exact ⟨by first | rfl | (simp; done) | (simp [*]; done), by repeat (first | exact Drawn0.refl _ | apply Drawn0.step)⟩

end Go.Proofs.Ytlgkeaildncojaa.Q
end

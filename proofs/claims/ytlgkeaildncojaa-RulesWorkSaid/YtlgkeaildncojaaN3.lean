import Derived.Test.YtlgkeaildncojaaN2
namespace Go.Proofs.Ytlgkeaildncojaa.Q
open Go.RowKit Go.Proofs.YtlgkeaildncojaaW.PrintWords Go.Proofs.YtlgkeaildncojaaW.PrintLast Go.Proofs.YtlgkeaildncojaaW.PrintMore
set_option linter.unusedSimpArgs false
set_option linter.unusedVariables false
section
variable {P : Program} {ops : Array Oper} {Q : Exit → Act → World → Prop}
theorem goesLv_ {rest : List Oper} {oi : Oper} {a : Act} {w : World} (N : Option Tmp) (hd : oi.dst = N) (hg : oi.guard = none) {f : FuncId} {fn : Func} {x : Operand} {xs : Array Operand} {ts : Array TypeId} {fr : Array Value} (hf : P.funcs[f]? = some fn) (hname : (fn.name == "runtime.NumGoroutine") = false) (hb : fn.body.isSome = true) (args : Array Value)
    (hop : oi.op = .call { callee := .value x, args := xs, argTypes := ts }) (hx : a.eval x = .func (.func f) #[] fr) (hargs : xs.map a.eval ++ fr = args)
    (h : Calls P f args w fun e w' => ∃ v, e = .returned v ∧ wpList P ops Q rest (a.put N v) w') : wpList P ops Q (oi :: rest) a w := by
  refine wpList_plain hg fun K hK => ?_
  have he := enters_ hf hname hb args w
  have hrun : (execOp a.eval oi).run P w = .ok (.enter f args) w := by
    unfold execOp
    simp [hop, resolve, Deferred.ofValue, invoke, hx, hargs, he]
  unfold Oper.wp
  rw [hrun, Oper.upon_enter]
  refine h.mono fun e w'' hh => ?_
  obtain ⟨v, rfl, hk⟩ := hh
  subst hd
  exact hK _ _ hk
end
theorem run_update_op {a : Act} {w w1 : World} {m kk v : Value} {t1 t2 t3 : Tmp} {T : TypeId} {o : Oper} (h1 : Act.eval a (.tmp t1) = m) (h2 : Act.eval a (.tmp t2) = kk) (h3 : Act.eval a (.tmp t3) = v) (ho : o.op = .mapUpdate T (.tmp t1) (.tmp t2) (.tmp t3))
    (hr : (Instr.mapUpdate T m kk v).run Try.prog w = .ok () w1) : (execOp a.eval o).run Try.prog w = .ok .skip w1 := by
  have e : execOp a.eval o = (do Instr.mapUpdate T m kk v; pure .skip) := by
    unfold execOp
    rw [ho]
    simp only [h1, h2, h3]
  rw [e]
  simp only [Sem.run_bind, hr, Result.andThen]
  rfl

theorem w64 {x : Int} (h1 : -9223372036854775808 ≤ x) (h2 : x ≤ 9223372036854775807) : wrap64 x = x := by
  unfold wrap64
  omega
/-- The state behind k whole lists and j elements of list k. -/
def MS (w : World) (b : Nat) (l m : List Int) (k j : Nat) : Prop := if k = 0 then BM w b (l.take j) [] else BM w b l (m.take j)
theorem ms_below {w w' : World} {b k j : Nat} {l m : List Int} (h : MS w b l m k j) (hb : Below w.heap.size w w') : MS w' b l m k j := by
  unfold MS at *
  split
  · rename_i hk; rw [if_pos hk] at h; exact bm_below h hb
  · rename_i hk; rw [if_neg hk] at h; exact bm_below h hb
theorem mem_take_succ (l : List Int) (j : Nat) (hj : j < l.length) (y : Int) : y ∈ l.take (j + 1) ↔ y ∈ l.take j ∨ y = l[j] := by
  rw [List.take_add_one, List.getElem?_eq_getElem hj, List.mem_append]
  simp
theorem rd_get (l : List Int) (j : Nat) (hj : j < l.length) : rd l (j : Int) = l[j] := by
  simp [rd, List.getD_eq_getElem?_getD, List.getElem?_eq_getElem hj]
theorem or1 (A B : List Int) (x : Int) : Go.bits .or .u64 (bval A B x) 1 = bval (x :: A) B x := by
  unfold bval
  by_cases h1 : x ∈ A <;> by_cases h2 : x ∈ B <;> simp [h1, h2] <;> decide
theorem or2 (A B : List Int) (x : Int) : Go.bits .or .u64 (bval A B x) 2 = bval A (x :: B) x := by
  unfold bval
  by_cases h1 : x ∈ A <;> by_cases h2 : x ∈ B <;> simp [h1, h2] <;> decide
theorem bval_mem {A A' B B' : List Int} {x : Int} (ha : x ∈ A ↔ x ∈ A') (hb : x ∈ B ↔ x ∈ B') : bval A B x = bval A' B' x := by
  unfold bval
  simp only [ha, hb]
/-- One round. -/
theorem ms_step (w : World) (b : Nat) (l m : List Int) (k j : Nat) (hk : k < 2) (hj : j < (if k = 0 then l else m).length) (hwf : (Lit.int .i64 ((if k = 0 then l else m)[j])).wf = true) (hl : l.length + m.length < maxLen) (h : MS w b l m k j) :
    ∃ bv, (Instr.lookup 100 (.map (some b)) (.int .i64 ((if k = 0 then l else m)[j])) false).run Try.prog w = .ok (.int .u64 bv) w ∧
    ∃ w1, (Instr.mapUpdate 100 (.map (some b)) (.int .i64 ((if k = 0 then l else m)[j])) (.int .u64 (Go.bits .or .u64 bv (if k = 0 then 1 else 2)))).run Try.prog w = .ok () w1 ∧ MS w1 b l m k (j + 1) ∧ w.grownBy w1 (some b) := by
  rcases (show k = 0 ∨ k = 1 by omega) with rfl | rfl
  · simp only [if_true] at *
    unfold MS at *
    simp only [if_true] at *
    have hj' : j < l.length := hj
    have hm := mem_take_succ l j hj'
    obtain ⟨h1, w1, h2, h3, h4⟩ := bm_step w b (l.take j) [] (l.take (j + 1)) [] l[j] hwf h (by simp only [List.length_take, List.length_nil]; omega) (by simp only [List.length_take, List.length_nil]; omega) (fun y hy => by rw [hm]; simp [hy]) (fun y _ => Iff.rfl) (.inl (by rw [hm]; exact .inr rfl))
    refine ⟨_, h1, w1, ?_, h3, h4⟩
    rw [or1, bval_mem (A' := l.take (j + 1)) (B' := []) (by rw [hm]; simp) Iff.rfl]
    exact h2
  · simp only [if_neg (show ¬ (1 : Nat) = 0 by decide)] at *
    unfold MS at *
    simp only [if_neg (show ¬ (1 : Nat) = 0 by decide)] at *
    have hj' : j < m.length := hj
    have hm := mem_take_succ m j hj'
    obtain ⟨h1, w1, h2, h3, h4⟩ := bm_step w b l (m.take j) l (m.take (j + 1)) m[j] hwf h (by simp only [List.length_take, List.length_nil]; omega) (by simp only [List.length_take, List.length_nil]; omega) (fun y _ => Iff.rfl) (fun y hy => by rw [hm]; simp [hy]) (.inr (by rw [hm]; exact .inr rfl))
    refine ⟨_, h1, w1, ?_, h3, h4⟩
    rw [or2, bval_mem (A' := l) (B' := m.take (j + 1)) Iff.rfl (by rw [hm]; simp)]
    exact h2
theorem ms_next {w : World} {b : Nat} {l m : List Int} (h : MS w b l m 0 l.length) : MS w b l m 1 0 := by
  unfold MS at *
  simpa using h
/-- The rows and the map of one loop. -/
theorem ranges_ne {w : World} {b r n cnt : Nat} {D : DataW Nat} {left : Lit → Bool} {v : Value} {e : TypeId} (h : w.ranges Try.prog 3 (plainElem Try.prog 80) b r n D left cnt) (ht : ∀ k, v.ownBlock = some k → ∃ cells, w.heap[k]? = some (.cells cells e (0, 0))) : some b ≠ v.ownBlock ∧ some r ≠ v.ownBlock := by
  obtain ⟨es, clock, since, seen, c0, hb, _, _, _, hr, _⟩ := h
  refine ⟨fun he => ?_, fun he => ?_⟩
  · obtain ⟨cells, hc⟩ := ht b he.symm
    rw [hb] at hc
    cases hc
  · obtain ⟨cells, hc⟩ := ht r he.symm
    rw [hr] at hc
    cases hc
theorem r_iter {w w' : World} {base r : Nat} {ok : Nat → Prop} {v : Value} {L : List Int} (h : Kd.R (Kd.int .i64) 3 w base ok v L) (hg : w.grownBy w' (some r)) (hne : some r ≠ v.ownBlock) : Kd.R (Kd.int .i64) 3 w' base ok v L :=
  Kd.R_of_own ((Kd.own_of_R h).kept hg (.inr fun e => hne e.symm)) h.1
theorem r_base {w : World} {base : Nat} {ok : Nat → Prop} {v : Value} {L : List Int} (h : Kd.R (Kd.int .i64) 3 w base ok v L) : ∀ k, v.ownBlock = some k → base ≤ k := fun k hk => ((Kd.own_of_R h).lt k hk).1
/-- What the rows hold once the keys that are not left have been seen. -/
def Seen (p : Int → Bool) (l m : List Int) (left : Lit → Bool) (L : List Int) : Prop := L.Nodup ∧ ∀ y, y ∈ L ↔ (y ∈ l ∨ y ∈ m) ∧ left (.int .i64 y) = false ∧ p (bval l m y) = true
theorem seen_start {p : Int → Bool} {l m : List Int} {left : Lit → Bool} (h : ∀ x, left (.int .i64 x) = decide (x ∈ l ∨ x ∈ m)) : Seen p l m left [] := by
  refine ⟨List.nodup_nil, fun y => ?_⟩
  rw [h y]
  simp only [List.not_mem_nil, false_iff]
  rintro ⟨h1, h2, _⟩
  exact absurd h1 (of_decide_eq_false h2)
theorem seen_end {p : Int → Bool} {l m : List Int} {left : Lit → Bool} {L : List Int} (h : Seen p l m left L) (hl : ∀ kl, left kl = false) : (L.mergeSort fun x y => decide (x ≤ y)) = hset ((l ++ m).filter fun x => p (bval l m x)) := by
  refine sort_nodup L _ h.1 (fun y => ?_)
  rw [h.2, List.mem_filter, List.mem_append]
  simp [hl]
theorem same_int (y x : Int) : Lit.sameKey (.int .i64 y) (.int .i64 x) = decide (y = x) := by simp [Lit.sameKey]
theorem seen_no {p : Int → Bool} {l m : List Int} {left : Lit → Bool} {L : List Int} {x : Int} (h : Seen p l m left L) (hl : left (.int .i64 x) = true) (hp : p (bval l m x) = false) : Seen p l m (fun z => left z && !z.sameKey (.int .i64 x)) L := by
  refine ⟨h.1, fun y => ?_⟩
  rw [h.2]
  simp only [same_int]
  by_cases hy : y = x
  · subst hy
    simp [hl, hp]
  · simp [hy]
theorem seen_yes {p : Int → Bool} {l m : List Int} {left : Lit → Bool} {L : List Int} {x : Int} (h : Seen p l m left L) (hl : left (.int .i64 x) = true) (hm : x ∈ l ∨ x ∈ m) (hp : p (bval l m x) = true) : Seen p l m (fun z => left z && !z.sameKey (.int .i64 x)) (L ++ [x]) := by
  refine ⟨?_, fun y => ?_⟩
  · rw [List.nodup_append]
    refine ⟨h.1, by simp, fun a ha b hb => ?_⟩
    rw [List.mem_singleton] at hb
    subst hb
    rintro rfl
    have := ((h.2 a).mp ha).2.1
    rw [hl] at this
    cases this
  · rw [List.mem_append, h.2, List.mem_singleton]
    simp only [same_int]
    by_cases hy : y = x
    · subst hy
      simp [hm, hp]
    · simp [hy]

set_option maxHeartbeats 8000000 in
set_option maxRecDepth 100000 in
theorem chosen_calls (p : Int → Bool) (g : FuncId) (fn : Func) (hf : Try.prog.funcs[g]? = some fn) (hname : (fn.name == "runtime.NumGoroutine") = false) (hbody : fn.body.isSome = true)
    (hfit : ∀ (x : Int) (w : World), Calls Try.prog g #[.int .u64 x] w fun e w' => e = .returned (.bool (p x)) ∧ Below w.heap.size w w')
    (A0 : Option Addr) (ls : List (List Int)) (cap : Nat) (w : World) (l m : List Int) (hls : Kd.C (Kd.slice 3 (Kd.int .i64)) w A0 ls.length ls) (hcap : ls.length ≤ cap) (hN : ls.length = 1 ∧ m = [] ∨ ls.length = 2) (hl0 : rd_L1 ls 0 = l) (hl1 : ls.length = 2 → rd_L1 ls 1 = m)
    (hwl : ∀ x ∈ l, (Lit.int .i64 x).wf = true) (hwm : ∀ x ∈ m, (Lit.int .i64 x).wf = true) (hlen : l.length + m.length < 4398046511104) :
    Calls Try.prog 41 #[.func (.func g) #[] #[], .slice A0 ls.length cap] w fun e w' => ∃ v, e = .returned v ∧ Kd.R (Kd.int .i64) 3 w' w.heap.size (fun _ => True) v (hset ((l ++ m).filter fun x => p (bval l m x))) ∧ Below w.heap.size w w' := by
  have hmm := @run_makeMap Try.prog
  have HL0 := Aside0.mk hls
  have HN := Aside0.mk hN
  have HL1 := Aside0.mk hl1
  have HWL := Aside0.mk hwl
  have HWM := Aside0.mk hwm
  have HLEN := Aside0.mk hlen
  have HF := Aside0.mk hfit
  have HC := Aside0.mk hcap
  have HE := Aside0.mk hl0
  have HLE : Aside0 (0 ≤ (ls.length : Int)) := ⟨by omega⟩
  clear hls hN hl1 hwl hwm hlen hfit hcap hl0
  go_enter Try.func41, Try.ntmps41
  go_wp2
  repeat (go_quiet (fail); try go_wp2)
  have HM := Aside0.mk (bm_made w)
  have HB := Aside0.mk ((Below.refl w.heap.size w).alloc (Nat.le_refl _) (.map #[] 0))
  generalize hgb : w.heap.size = gb at *
  go_loopw [16] (fun v16 w' => ∃ k : Nat, v16 = .int .i64 k ∧ Aside0 (k ≤ ls.length) ∧ Aside0 (if k < 2 then MS w' gb l m k 0 else BM w' gb l m) ∧ Aside0 (Below gb w w')) (fun v16 _ => ls.length - (intOf v16).toNat)
  case atStart => exact ⟨0, rfl, ⟨Nat.zero_le _⟩, by first | exact HM | exact ⟨HM.out⟩, HB⟩
  case round =>
    clear HM HB
    obtain ⟨k, rfl, HK, HM, HB⟩ := hrel
    by_cases c1 : (k : Int) < (ls.length : Int)
    · have c1b : decide ((k : Int) < (ls.length : Int)) = true := decide_eq_true c1
      have hk2 : k < 2 := by rcases HN.out with h | h <;> omega
      have HM1 := HM.out
      rw [if_pos hk2] at HM1
      have HM2 := Aside0.mk HM1
      clear HM1 HM
      rcases (show k = 0 ∨ k = 1 by omega) with rfl | rfl
      · -- list 0
        have c1x : decide (0 < ls.length) = true := by simpa using c1
        have p1 : (0 : Int) ≤ ((0 : Nat) : Int) := by omega
        have q1 : ((0 : Nat) : Int) < (ls.length : Int) := of_decide_eq_true c1b
        obtain ⟨ad1, A1, c1_, e1, hx1, hl1, hC1⟩ := at_L1 HL0.out ((0 : Nat) : Int) p1 q1
        cases e1
        have he : rd_L1 ls ((0 : Nat) : Int) = l := HE.out
        rw [he] at hx1 hl1 hC1
        replace hx1 := (HB.out.cell (by rw [← hgb]; exact World.block_lt_of_cell? w _ hx1)).trans hx1
        replace hx1 : wr.cell? ad1 = some (.slice A1 l.length c1_) := hx1
        have q2 := eq_true (of_decide_eq_true c1x)
        replace p1 := eq_true p1
        replace q1 := eq_true q1
        have HC1 := Aside0.mk hC1
        clear hC1
        go_wp2
        repeat (go_quiet (fail); try go_wp2)
        go_loopw [23] (fun v23 w' => ∃ j : Nat, v23 = .int .i64 j ∧ Aside0 (j ≤ l.length) ∧ Aside0 (MS w' gb l m 0 j) ∧ Aside0 (Below gb w w')) (fun v23 _ => l.length - (intOf v23).toNat)
        case atStart => exact ⟨0, rfl, ⟨Nat.zero_le _⟩, HM2, HB⟩
        case round =>
          clear HM2 HB hx1
          obtain ⟨j, rfl, HJ, HM, HB⟩ := hrel
          by_cases c2 : (j : Int) < (l.length : Int)
          · have c2b : decide ((j : Int) < (l.length : Int)) = true := decide_eq_true c2
            have c2n : decide (j < l.length) = true := by simpa using c2
            have hj : j < l.length := of_decide_eq_true c2n
            have p3 : (0 : Int) ≤ (j : Int) := by omega
            have q3 := c2
            obtain ⟨ad2, e2, hx2⟩ := Kd.at_int (Kd.C_below HC1.out (by rw [hgb]; exact HB.out)) (j : Int) p3 q3
            cases e2
            rw [rd_get _ _ hj] at hx2
            replace hx2 : wr.cell? (ad2.add j) = some (.int .i64 (l[j])) := hx2
            obtain ⟨bv, hlk, w1_, hup, HM', hg⟩ := ms_step wr.drew gb l m 0 j (by omega) hj (HWL.out _ (List.getElem_mem hj)) (by have := HLEN.out; simp only [maxLen]; omega) HM.out
            replace hlk : (Instr.lookup 100 (.map (some gb)) (.int .i64 l[j]) false).run Try.prog wr.drew = .ok (.int .u64 bv) wr.drew := hlk
            replace hup : (Instr.mapUpdate 100 (.map (some gb)) (.int .i64 l[j]) (.int .u64 (Go.bits .or .u64 bv 1))).run Try.prog wr.drew = .ok () w1_ := hup
            obtain ⟨xe, hxe⟩ : ∃ x, l[j] = x := ⟨_, rfl⟩
            rw [hxe] at hx2 hlk hup
            have HM3 := Aside0.mk HM'
            have HG := Aside0.mk hg
            replace p3 := eq_true p3
            replace q3 := eq_true q3
            have q4 := eq_true hj
            clear HM' hg HM hj c2 hxe
            go_wp2
            refine start_ (n := 7) (S := fun w' => (Instr.lookup 100 (.map (some gb)) (.int .i64 xe) false).run Try.prog w' = .ok (.int .u64 bv) w') (ds := [6]) #[false, false, false, false, false, false, false] (by kernel_rfl) rfl rfl (hlk) (fun hHeld => ?_)
            refine pure_ (i := 0) (N := some 27) (v := ?_) (a' := ?_) #[true, false, false, false, false, false, false] rfl rfl (by kernel_rfl) (fun _ _ _ h => h) (Or.inl ⟨by rfl, ?_⟩) ?_ ?_
            rotate_left
            · intro w'
              go_simp
              with_reducible rfl
            rotate_left
            · simp only [Act.put, List.setIfInBounds_toArray, List.set_cons_zero, List.set_cons_succ, i64_w, i32_w]
              rfl
            refine pure_ (i := 1) (N := some 28) (v := ?_) (a' := ?_) #[true, true, false, false, false, false, false] rfl rfl (by kernel_rfl) (fun _ _ _ h => h) (Or.inl ⟨by rfl, ?_⟩) ?_ ?_
            rotate_left
            · intro w'
              go_simp
              with_reducible rfl
            rotate_left
            · simp only [Act.put, List.setIfInBounds_toArray, List.set_cons_zero, List.set_cons_succ, i64_w, i32_w]
              rfl
            refine pure_ (i := 3) (N := some 30) (v := ?_) (a' := ?_) #[true, true, false, true, false, false, false] rfl rfl (by kernel_rfl) (fun _ _ _ h => h) (Or.inl ⟨by rfl, ?_⟩) ?_ ?_
            rotate_left
            · intro w'
              go_simp
              with_reducible rfl
            rotate_left
            · simp only [Act.put, List.setIfInBounds_toArray, List.set_cons_zero, List.set_cons_succ, i64_w, i32_w]
              rfl
            refine pure_ (i := 4) (N := some 31) (v := ?_) (a' := ?_) #[true, true, false, true, true, false, false] rfl rfl (by kernel_rfl) (fun _ _ _ h => h) (Or.inl ⟨by rfl, ?_⟩) ?_ ?_
            rotate_left
            · intro w'
              go_simp
              with_reducible rfl
            rotate_left
            · simp only [Act.put, List.setIfInBounds_toArray, List.set_cons_zero, List.set_cons_succ, i64_w, i32_w]
              rfl
            refine take_ (i := 2) (N := some 29) (v := ?_) (a' := ?_) #[true, true, true, true, true, false, false] rfl rfl (by kernel_rfl) (fun _ _ _ h => h) (Or.inl ⟨by rfl, ?_⟩) hHeld ?_ ?_
            rotate_left
            · intro w' s0
              go_simp
              with_reducible rfl
            rotate_left
            · simp only [Act.put, List.setIfInBounds_toArray, List.set_cons_zero, List.set_cons_succ, i64_w, i32_w]
              rfl
            refine pure_ (i := 5) (N := some 32) (v := ?_) (a' := ?_) #[true, true, true, true, true, true, false] rfl rfl (by kernel_rfl) (fun _ _ _ h => h) (Or.inl ⟨by rfl, ?_⟩) ?_ ?_
            rotate_left
            · intro w'
              go_simp
              with_reducible rfl
            rotate_left
            · simp only [Act.put, List.setIfInBounds_toArray, List.set_cons_zero, List.set_cons_succ, i64_w, i32_w]
              rfl
            refine last_ (i := 6) (N := none) #[true, true, true, true, true, true, true] rfl rfl (by kernel_rfl) (by decide) (fun K hK => ?_)
            refine skip_ (w1 := w1_) (by rfl) rfl ?_ ?_
            · exact run_update_op (by rfl) (by rfl) (by rfl) rfl hup
            refine hK.out _ _ ?_
            clear hK K
            refine done_ (by kernel_rfl) ?_
            go_wp2
            have hj2 := of_eq_true q4
            have hwj : wrap64 ((j : Int) + 1) = ((j + 1 : Nat) : Int) := by rw [w64 (by omega) (by have := HLEN.out; omega)]; omega
            go_roundw
            case measure => rw [hwj]; simp only [intOf, Int.toNat_natCast]; omega
            case rel => exact ⟨j + 1, by rw [hwj], ⟨by omega⟩, HM3, ⟨HB.out.drew.grown HG.out (by have := HB.out.size; rw [hgb] at this; exact this) (fun k hk => by cases hk; exact Nat.le_refl _)⟩⟩
          · have c2b : decide ((j : Int) < (l.length : Int)) = false := decide_eq_false c2
            have c2n : decide (j < l.length) = false := by simpa using c2
            go_wp2
            go_roundw
            case measure => simp [intOf]; omega
            case rel =>
              obtain rfl : j = l.length := by have := HJ.out; omega
              exact ⟨0 + 1, by go_num, ⟨by omega⟩, ⟨by simpa using ms_next HM.out⟩, HB⟩
      · -- list 1
        have c1x : decide (1 < (ls.length : Int)) = true := by simpa using c1
        have p1 : (0 : Int) ≤ ((1 : Nat) : Int) := by omega
        have q1 : ((1 : Nat) : Int) < (ls.length : Int) := of_decide_eq_true c1b
        obtain ⟨ad1, A1, c1_, e1, hx1, hl1, hC1⟩ := at_L1 HL0.out ((1 : Nat) : Int) p1 q1
        cases e1
        have he : rd_L1 ls ((1 : Nat) : Int) = m := HL1.out (by rcases HN.out with h | h <;> omega)
        rw [he] at hx1 hl1 hC1
        replace hx1 := (HB.out.cell (by rw [← hgb]; exact World.block_lt_of_cell? w _ hx1)).trans hx1
        replace hx1 : wr.cell? ⟨ad1.block, ad1.off + 1, none⟩ = some (.slice A1 m.length c1_) := hx1
        have q2 := eq_true (of_decide_eq_true c1x)
        replace p1 := eq_true p1
        replace q1 := eq_true q1
        have HC1 := Aside0.mk hC1
        clear hC1
        go_wp2
        repeat (go_quiet (fail); try go_wp2)
        go_loopw [23] (fun v23 w' => ∃ j : Nat, v23 = .int .i64 j ∧ Aside0 (j ≤ m.length) ∧ Aside0 (MS w' gb l m 1 j) ∧ Aside0 (Below gb w w')) (fun v23 _ => m.length - (intOf v23).toNat)
        case atStart => exact ⟨0, rfl, ⟨Nat.zero_le _⟩, HM2, HB⟩
        case round =>
          clear HM2 HB hx1
          obtain ⟨j, rfl, HJ, HM, HB⟩ := hrel
          by_cases c2 : (j : Int) < (m.length : Int)
          · have c2b : decide ((j : Int) < (m.length : Int)) = true := decide_eq_true c2
            have c2n : decide (j < m.length) = true := by simpa using c2
            have hj : j < m.length := of_decide_eq_true c2n
            have p3 : (0 : Int) ≤ (j : Int) := by omega
            have q3 := c2
            obtain ⟨ad2, e2, hx2⟩ := Kd.at_int (Kd.C_below HC1.out (by rw [hgb]; exact HB.out)) (j : Int) p3 q3
            cases e2
            rw [rd_get _ _ hj] at hx2
            replace hx2 : wr.cell? (ad2.add j) = some (.int .i64 (m[j])) := hx2
            obtain ⟨bv, hlk, w1_, hup, HM', hg⟩ := ms_step wr.drew gb l m 1 j (by omega) hj (HWM.out _ (List.getElem_mem hj)) (by have := HLEN.out; simp only [maxLen]; omega) HM.out
            replace hlk : (Instr.lookup 100 (.map (some gb)) (.int .i64 m[j]) false).run Try.prog wr.drew = .ok (.int .u64 bv) wr.drew := hlk
            replace hup : (Instr.mapUpdate 100 (.map (some gb)) (.int .i64 m[j]) (.int .u64 (Go.bits .or .u64 bv 2))).run Try.prog wr.drew = .ok () w1_ := hup
            obtain ⟨xe, hxe⟩ : ∃ x, m[j] = x := ⟨_, rfl⟩
            rw [hxe] at hx2 hlk hup
            have HM3 := Aside0.mk HM'
            have HG := Aside0.mk hg
            replace p3 := eq_true p3
            replace q3 := eq_true q3
            have q4 := eq_true hj
            clear HM' hg HM hj c2 hxe
            go_wp2
            refine start_ (n := 7) (S := fun w' => (Instr.lookup 100 (.map (some gb)) (.int .i64 xe) false).run Try.prog w' = .ok (.int .u64 bv) w') (ds := [6]) #[false, false, false, false, false, false, false] (by kernel_rfl) rfl rfl (hlk) (fun hHeld => ?_)
            refine pure_ (i := 0) (N := some 27) (v := ?_) (a' := ?_) #[true, false, false, false, false, false, false] rfl rfl (by kernel_rfl) (fun _ _ _ h => h) (Or.inl ⟨by rfl, ?_⟩) ?_ ?_
            rotate_left
            · intro w'
              go_simp
              with_reducible rfl
            rotate_left
            · simp only [Act.put, List.setIfInBounds_toArray, List.set_cons_zero, List.set_cons_succ, i64_w, i32_w]
              rfl
            refine pure_ (i := 1) (N := some 28) (v := ?_) (a' := ?_) #[true, true, false, false, false, false, false] rfl rfl (by kernel_rfl) (fun _ _ _ h => h) (Or.inl ⟨by rfl, ?_⟩) ?_ ?_
            rotate_left
            · intro w'
              go_simp
              with_reducible rfl
            rotate_left
            · simp only [Act.put, List.setIfInBounds_toArray, List.set_cons_zero, List.set_cons_succ, i64_w, i32_w]
              rfl
            refine pure_ (i := 3) (N := some 30) (v := ?_) (a' := ?_) #[true, true, false, true, false, false, false] rfl rfl (by kernel_rfl) (fun _ _ _ h => h) (Or.inl ⟨by rfl, ?_⟩) ?_ ?_
            rotate_left
            · intro w'
              go_simp
              with_reducible rfl
            rotate_left
            · simp only [Act.put, List.setIfInBounds_toArray, List.set_cons_zero, List.set_cons_succ, i64_w, i32_w]
              rfl
            refine pure_ (i := 4) (N := some 31) (v := ?_) (a' := ?_) #[true, true, false, true, true, false, false] rfl rfl (by kernel_rfl) (fun _ _ _ h => h) (Or.inl ⟨by rfl, ?_⟩) ?_ ?_
            rotate_left
            · intro w'
              go_simp
              with_reducible rfl
            rotate_left
            · simp only [Act.put, List.setIfInBounds_toArray, List.set_cons_zero, List.set_cons_succ, i64_w, i32_w]
              rfl
            refine take_ (i := 2) (N := some 29) (v := ?_) (a' := ?_) #[true, true, true, true, true, false, false] rfl rfl (by kernel_rfl) (fun _ _ _ h => h) (Or.inl ⟨by rfl, ?_⟩) hHeld ?_ ?_
            rotate_left
            · intro w' s0
              go_simp
              with_reducible rfl
            rotate_left
            · simp only [Act.put, List.setIfInBounds_toArray, List.set_cons_zero, List.set_cons_succ, i64_w, i32_w]
              rfl
            refine pure_ (i := 5) (N := some 32) (v := ?_) (a' := ?_) #[true, true, true, true, true, true, false] rfl rfl (by kernel_rfl) (fun _ _ _ h => h) (Or.inl ⟨by rfl, ?_⟩) ?_ ?_
            rotate_left
            · intro w'
              go_simp
              with_reducible rfl
            rotate_left
            · simp only [Act.put, List.setIfInBounds_toArray, List.set_cons_zero, List.set_cons_succ, i64_w, i32_w]
              rfl
            refine last_ (i := 6) (N := none) #[true, true, true, true, true, true, true] rfl rfl (by kernel_rfl) (by decide) (fun K hK => ?_)
            refine skip_ (w1 := w1_) (by rfl) rfl ?_ ?_
            · exact run_update_op (by rfl) (by rfl) (by rfl) rfl hup
            refine hK.out _ _ ?_
            clear hK K
            refine done_ (by kernel_rfl) ?_
            go_wp2
            have hj2 := of_eq_true q4
            have hwj : wrap64 ((j : Int) + 1) = ((j + 1 : Nat) : Int) := by rw [w64 (by omega) (by have := HLEN.out; omega)]; omega
            go_roundw
            case measure => rw [hwj]; simp only [intOf, Int.toNat_natCast]; omega
            case rel => exact ⟨j + 1, by rw [hwj], ⟨by omega⟩, HM3, ⟨HB.out.drew.grown HG.out (by have := HB.out.size; rw [hgb] at this; exact this) (fun k hk => by cases hk; exact Nat.le_refl _)⟩⟩
          · have c2b : decide ((j : Int) < (m.length : Int)) = false := decide_eq_false c2
            have c2n : decide (j < m.length) = false := by simpa using c2
            go_wp2
            go_roundw
            case measure => simp [intOf]; omega
            case rel =>
              obtain rfl : j = m.length := by have := HJ.out; omega
              exact ⟨1 + 1, by go_num, ⟨by omega⟩, ⟨by simpa [MS] using HM.out⟩, HB⟩
    · have c1b : decide ((k : Int) < (ls.length : Int)) = false := decide_eq_false c1
      have c1n : decide (k < ls.length) = false := by simpa using c1
      have hD : BM wr gb l m := by
        have h0 := HM.out
        have hk : k = ls.length := by have := HK.out; omega
        rcases HN.out with ⟨h1, h2⟩ | h1
        · rw [hk, h1, if_pos (by decide)] at h0
          subst h2
          simpa [MS] using h0
        · rw [hk, h1, if_neg (by decide)] at h0
          exact h0
      obtain ⟨D, hown, hat0, hhas0⟩ := hD
      have HAT := Aside0.mk hat0
      have HHAS := Aside0.mk hhas0
      clear hat0 hhas0 HM HE HC HL1 HL0 HN HWL HWM
      go_wp2_with (first | (at_range; refine wpList_range_own _ rfl _ 100 rfl 3 80 law3 Try.underlying100 _ gb _ _ rfl hown ?_; intro w0 hrg0 hg0 hs0) | go_in)
      have HB0 := Aside0.mk (HB.out.grown hg0 (by have := HB.out.size; simpa [hgb] using this) (fun k hk => by cases hk))
      have HCN := Aside0.mk hown.size_le
      have hrl : gb ≤ wr.heap.size := by have := HB.out.size; simpa [hgb] using this
      clear hg0 hs0 hown HB
      generalize hrb : wr.heap.size = rb at *
      go_loopw [10] (fun v10 w' => ∃ (left : Lit → Bool) (cnt : Nat) (L : List Int), w'.ranges Try.prog 3 (plainElem Try.prog 80) gb rb (l.length + m.length) D left cnt ∧ Aside0 (Kd.R (Kd.int .i64) 3 w' gb (fun _ => True) v10 L) ∧ Aside0 (Seen p l m left L) ∧ Aside0 (L.length + cnt ≤ l.length + m.length) ∧ Aside0 (∀ z, left z = true → Maps.has D z = true) ∧ Aside0 (Below gb w w')) (fun _ w' => w'.rangeLeft gb rb)
      case atStart => exact ⟨_, _, [], hrg0, ⟨Kd.R_nil _ _ _ _ _⟩, ⟨seen_start HHAS.out⟩, ⟨by have := HCN.out; simpa using this⟩, ⟨fun z hz => hz⟩, HB0⟩
      case round =>
        clear hrg0 HB0
        obtain ⟨left, cnt, L, hrg, HR, HG, HLN, HLH, HB⟩ := hrel
        go_wp2_with (first | (at_next; refine wpList_next_ranges_ii _ rfl _ rfl 3 80 .i64 .u64 law3 Try.underlying3 Try.underlying80 gb rb _ _ _ _ rfl hrg ?_ ?_) | go_in)
        · intro hc0 hl0
          subst hc0
          have hsrt := Aside0.mk (seen_end HG.out hl0)
          clear hrg hl0
          go_wp2_with (go_at_call 59; refine (sort_own u10 L gb (fun _ => True) _ HR.out (by have := HLN.out; have := HLEN.out; omega)).mono ?_; rintro e w' ⟨rfl, HR', hg⟩)
          go_ret
          exact ⟨_, rfl, by rw [hgb, ← hsrt.out]; exact HR', by rw [hgb]; exact HB.out.grown hg (by have := HB.out.size; omega) (r_base HR.out)⟩
        · intro x c w1 cnt1 hwx hwc hlx hat hrg1 hlt hg1 hs1 hen
          have hc : c = bval l m x := by
            have h1 := hat (.lit (.int .u64 0))
            rw [HAT.out x] at h1
            injection h1 with h1
            injection h1 with _ h1
            exact h1.symm
          subst hc
          have hmem : x ∈ l ∨ x ∈ m := of_decide_eq_true ((HHAS.out x).symm.trans (HLH.out _ hlx))
          obtain ⟨hn1, hn2⟩ := ranges_ne hrg (Kd.R_typed HR.out)
          have HR1 := Aside0.mk (r_iter HR.out hg1 hn2)
          have HB1 := Aside0.mk (HB.out.grown hg1 (by have := HB.out.size; omega) (fun k hk => by cases hk; exact hrl))
          have HLH1 : Aside0 (∀ z, (left z && !z.sameKey (.int .i64 x)) = true → Maps.has D z = true) := ⟨fun z hz => HLH.out z (by simp only [Bool.and_eq_true] at hz; exact hz.1)⟩
          have hm0 := hrg.left_eq
          have HRG1 := Aside0.mk hrg1
          have HGR := HG
          have HSZ : Aside0 (gb ≤ wr.heap.size) := ⟨by have := HB.out.size; omega⟩
          clear hrg hat HR HB hn1 hn2 HLH hg1 hrg1 HG
          obtain ⟨px, hpx⟩ : ∃ q, p (bval l m x) = q := ⟨_, rfl⟩
          have HFx : Aside0 (∀ w, Calls Try.prog g #[.int .u64 (bval l m x)] w fun e w' => e = .returned (.bool px) ∧ Below w.heap.size w w') := ⟨fun w => by have := HF.out (bval l m x) w; rw [hpx] at this; exact this⟩
          generalize hbv : bval l m x = bv at *
          cases px with
          | false =>
            have HG1 := Aside0.mk (seen_no HGR.out hlx (by rw [hbv]; exact hpx))
            clear HGR hlx hmem hwx hwc
            go_wp2_with (first | (refine goesLv_ (fr := #[]) (some 44) rfl rfl hf hname hbody #[.int .u64 bv] rfl (by rfl) (by first | rfl | (simp; rfl) | simp) ?_; refine (HFx.out _).mono ?_; rintro e w2 ⟨rfl, hb⟩; refine ⟨_, rfl, ?_⟩; have HR2 := Aside0.mk (Kd.R_below HR1.out hb); have HRG2 := Aside0.mk (HRG1.out.kept (grown_of_below hb none) (by simp) (by simp)); have HB2 := Aside0.mk (below_then HB1.out (by have := HB1.out.size; omega) hb); clear HR1 HRG1 HB1 hb) | go_in)
            try go_frame
            have hrg2 := HRG2.out
            go_roundw
            case measure => rw [hrg2.left_eq, hm0]; exact hlt
            case rel => exact ⟨_, cnt1, L, hrg2, HR2, HG1, ⟨by have := HLN.out; omega⟩, HLH1, HB2⟩
          | true =>
            have HG1 := Aside0.mk (seen_yes HGR.out hlx hmem (by rw [hbv]; exact hpx))
            clear HGR hlx hmem hwx hwc
            go_wp2_with (first | (refine goesLv_ (fr := #[]) (some 44) rfl rfl hf hname hbody #[.int .u64 bv] rfl (by rfl) (by first | rfl | (simp; rfl) | simp) ?_; refine (HFx.out _).mono ?_; rintro e w2 ⟨rfl, hb⟩; refine ⟨_, rfl, ?_⟩; have HR2 := Aside0.mk (Kd.R_below HR1.out hb); have HRG2 := Aside0.mk (HRG1.out.kept (grown_of_below hb none) (by simp) (by simp)); have HB2 := Aside0.mk (below_then HB1.out (by have := HB1.out.size; omega) hb); clear HR1 HRG1 HB1 hb) | ((with_reducible refine gate_builtin (b := .append) (xs := #[.tmp 45, .tmp 47]) rfl ?_); at_builtin; refine Kd.R_append (Kd.int .i64) (w0 := w) gb rfl (.tmp 45) (.tmp 47) 26 3 (.int .i64 0) 8 rfl Try.underlying26 info3 rfl (by decide) (by omega) u10 L x [.int .i64 x] (fun _ => True) (fun _ => False) rfl rfl ?aP (fun _ hk => hk.elim) ?aF ?aO ?aB ?aS ?aL ?_; (case aP => exact rfl); (case aF => exact (fun _ _ => trivial)); (case aO => exact HR2.out); (case aB => exact HB2.out); (case aS => exact (by have := HB2.out.size; omega)); (case aL => have := HLN.out; have := HLEN.out; omega); intro v3_ w3 ho hb hg hat; have hne3 := ranges_ne HRG2.out (Kd.R_typed HR2.out); have HRG3 := Aside0.mk (HRG2.out.kept hg hne3.1 hne3.2); have HR3 := Aside0.mk ho; have HB3 := Aside0.mk hb; clear HR2 HRG2 HB2 ho hb hg hat hne3) | go_in)
            try go_frame
            have hrg3 := HRG3.out
            go_roundw
            case measure => rw [hrg3.left_eq, hm0]; exact hlt
            case rel => exact ⟨_, cnt1, L ++ [x], hrg3, HR3, HG1, ⟨by have := HLN.out; simp only [List.length_append, List.length_singleton]; omega⟩, HLH1, HB3⟩

end Go.Proofs.Ytlgkeaildncojaa.Q

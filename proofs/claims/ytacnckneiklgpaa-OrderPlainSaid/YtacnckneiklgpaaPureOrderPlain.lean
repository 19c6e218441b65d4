/- OrderPlain, the plain part. -/
import Derived.Test.YtacnckneiklgpaaQx22
import Derived.Test.YtacnckneiklgpaaKq
namespace Go.Proofs.Ytacnckneiklgpaa.Pure
open Go.RowKit Go.Proofs.Ytacnckneiklgpaa.Q Go.Proofs.Ytacnckneiklgpaa.Plain Go.Proofs.YtacnckneiklgpaaW.PrintWords Go.Proofs.YtacnckneiklgpaaW.PrintLast Go.Proofs.YtacnckneiklgpaaW.PrintMore
set_option linter.unusedVariables false
namespace Pln
theorem saneK : ∃ k, abugidalaw07_sanity.f k = some true := ⟨300, by decide +kernel⟩
theorem ev_sane : Ev (fun k => abugidalaw07_sanity.f k) true := by
  obtain ⟨k, h⟩ := saneK
  exact Ev.of abugidalaw07_sanity.mono h
theorem equal_l0 (l : List Int) (hl : l.length ≤ 1000) : ∀ (d i : Nat), i + d = l.length → Ev (fun k => abugidaref07_Equal.l0 k l l (i : Int)) true
  | 0, i, h => by
    refine Ev.step (fun k => by simp only [abugidaref07_Equal.l0, if_neg (show ¬ (i : Int) < (l.length : Int) by omega)]; rfl) ?_
    exact Ev.now _
  | d + 1, i, h => by
    refine Ev.step (fun k => by simp only [abugidaref07_Equal.l0, if_pos (show (i : Int) < (l.length : Int) by omega), if_pos (show (0 : Int) ≤ (i : Int) by omega), w64 ((i : Int) + 1) (by omega) (by omega)]; rfl) ?_
    exact Ev.congr (fun k => if_pos trivial) (equal_l0 l hl d (i + 1) (by omega))
theorem equal_ev (l : List Int) (hl : l.length ≤ 1000) : Ev (fun k => abugidaref07_Equal.f k l l) true := by
  refine Ev.congr (fun k => ?_) (equal_l0 l hl l.length 0 (by omega))
  rw [abugidaref07_Equal.f, if_pos rfl]
  rfl
def scrP (c : Int) : Int := (abugidaref05_Script.f c).getD 0
def codesP (s : Int) : List Int := (abugidaref05_Codes.f 400 s).getD []
def extT (k : Int) : Bool := k == 6 || k == 10 || k == 11 || k == 12 || k == 13 || k == 14
def strT (k s : Int) : Int := if k = 3 then 3 else if s = 0 then 0 else if s = 2 then 2 else 1
theorem chars_all : (List.range 256).all (fun c => (abugidaref05_Script.f (c : Int) == some (scrP (c : Int))) && (decide (0 ≤ scrP (c : Int)) && decide (scrP (c : Int) < 4)) && (abugidaref05_Strong.f 40 (c : Int) == some (strongP (c : Int))) && (abugidaref05_Class.f 40 (c : Int) == some (hcls (c : Int))) && (hext (c : Int) == extT (hcls (c : Int))) && (strongP (c : Int) == strT (hcls (c : Int)) (scrP (c : Int)))) = true := by decide +kernel
theorem codes_all : (List.range 4).all (fun s => (abugidaref05_Codes.f 400 (s : Int) == some (codesP (s : Int))) && decide ((codesP (s : Int)).length ≤ 256) && (codesP (s : Int)).all (fun x => decide (0 ≤ x) && decide (x < 256) && (scrP x == (s : Int)))) = true := by decide +kernel
theorem char_at (c : Int) (h0 : 0 ≤ c) (h1 : c < 256) : abugidaref05_Script.f c = some (scrP c) ∧ (0 ≤ scrP c ∧ scrP c < 4) ∧ abugidaref05_Strong.f 40 c = some (strongP c) ∧ abugidaref05_Class.f 40 c = some (hcls c) ∧ hext c = extT (hcls c) ∧ strongP c = strT (hcls c) (scrP c) := by
  obtain ⟨n, rfl⟩ := Int.eq_ofNat_of_zero_le h0
  have := List.all_eq_true.mp chars_all n (List.mem_range.mpr (by omega))
  simp only [Bool.and_eq_true, beq_iff_eq, decide_eq_true_eq] at this
  obtain ⟨⟨⟨⟨⟨a, b⟩, c⟩, d⟩, e⟩, f⟩ := this
  exact ⟨a, b, c, d, e, f⟩
theorem codes_at (s : Int) (h0 : 0 ≤ s) (h1 : s < 4) : abugidaref05_Codes.f 400 s = some (codesP s) ∧ (codesP s).length ≤ 256 ∧ ∀ x ∈ codesP s, 0 ≤ x ∧ x < 256 ∧ scrP x = s := by
  obtain ⟨n, rfl⟩ := Int.eq_ofNat_of_zero_le h0
  have := List.all_eq_true.mp codes_all n (List.mem_range.mpr (by omega))
  simp only [Bool.and_eq_true, beq_iff_eq, decide_eq_true_eq, List.all_eq_true] at this
  obtain ⟨⟨a, b⟩, c⟩ := this
  exact ⟨a, b, fun x hx => by
    have := c x hx
    exact ⟨this.1.1, this.1.2, this.2⟩⟩
theorem feat_of (x c : Int) (x0 : 0 ≤ x) (x1 : x < 256) (c0 : 0 ≤ c) (c1 : c < 256) (hs : scrP x = scrP c) (hc : hcls x = hcls c) : feat x = feat c := by
  obtain ⟨_, _, _, _, e1, f1⟩ := char_at x x0 x1
  obtain ⟨_, _, _, _, e2, f2⟩ := char_at c c0 c1
  unfold feat
  rw [e1, e2, f1, f2, hs, hc]
theorem strong_vals (c : Int) (c0 : 0 ≤ c) (c1 : c < 256) : strongP c = 0 ∨ strongP c = 1 ∨ strongP c = 2 ∨ strongP c = 3 := by
  obtain ⟨_, _, _, _, _, f⟩ := char_at c c0 c1
  rw [f]
  unfold strT
  split
  · exact .inr (.inr (.inr rfl))
  · split
    · exact .inl rfl
    · split
      · exact .inr (.inr (.inl rfl))
      · exact .inr (.inl rfl)
theorem ev_strong (s : ByteArray) (i : Int) : Ev (fun k => abugidaref05_Strong.f k (wrap64 (bt s i))) (strongP (bt s i)) := by
  rw [bt255]
  have hr := bt_range s i
  exact Ev.of (abugidaref05_Strong.mono _) (char_at _ hr.1 (by omega)).2.2.1
theorem ev_cls5 (x : Int) (x0 : 0 ≤ x) (x1 : x < 256) : Ev (fun k => abugidaref05_Class.f k x) (hcls x) := Ev.of (abugidaref05_Class.mono _) (char_at x x0 x1).2.2.2.1
theorem bytes_one (o : Int) (h0 : 0 ≤ o) (h1 : o < 256) : bytesOf (strOfNums [o % 256]) = [o] := by
  obtain ⟨n, rfl⟩ := Int.eq_ofNat_of_zero_le h0
  simp only [bytesOf, strOfNums, List.map_cons, List.map_nil]
  simp
  omega
theorem bytes_cut (s : ByteArray) (i : Nat) (h : i < s.size) : bytesOf (s.extract i (i + 1)) = [bt s (i : Int)] := by
  have hg := bytes_get s i h
  have e1 : bytesOf (s.extract i (i + 1)) = ((bytesOf s).drop i).take 1 := by
    simp only [bytesOf, ByteArray.data_extract, Array.toList_extract, List.extract_eq_take_drop, List.map_take, List.map_drop]
    rw [show i + 1 - i = 1 by omega]
  rw [e1, List.take_one, List.head?_drop, hg]
  rfl
theorem cut_size (s : ByteArray) (i : Nat) (h : i < s.size) : (s.extract i (i + 1)).size = 1 := by
  rw [ByteArray.size_extract]; omega
/-- What has been made of the first i characters. -/
structure Inv (s : ByteArray) (i : Nat) (one two three : ByteArray) : Prop where
  s1 : one.size ≤ i
  s2 : two.size ≤ i
  s3 : three.size = i
  h1 : ∀ c ∈ bytesOf one, strongP c ≠ 2
  h2 : ∀ c ∈ bytesOf two, strongP c = 0 ∨ strongP c = 2
  h3 : (bytesOf three).map feat = ((bytesOf s).take i).map feat
def has2 (l : List Int) : Bool := l.any (fun c => strongP c == 2)
theorem has2_app (l : List Int) (c : Int) : has2 (l ++ [c]) = (has2 l || strongP c == 2) := by
  unfold has2
  rw [List.any_append]
  simp
theorem base_two : ∀ l : List Int, (∀ c ∈ l, strongP c = 0 ∨ strongP c = 2) → baseL l = if has2 l = true then 2 else 1
  | [], _ => rfl
  | c :: l, h => by
    have ih := base_two l (fun x hx => h x (List.mem_cons_of_mem _ hx))
    rcases h c List.mem_cons_self with hc | hc
    · simp only [baseL, has2, List.any_cons, hc] at ih ⊢
      simpa using ih
    · simp only [baseL, has2, List.any_cons, hc]
      simp
theorem base_one : ∀ l : List Int, (∀ c ∈ l, strongP c ≠ 2) → baseL l = 1
  | [], _ => rfl
  | c :: l, h => by
    have ih := base_one l (fun x hx => h x (List.mem_cons_of_mem _ hx))
    unfold baseL
    split
    · rename_i hc
      exact hc.resolve_right (h c List.mem_cons_self)
    · exact ih
theorem one_levels (s : ByteArray) (h : ∀ c ∈ bytesOf s, strongP c ≠ 2) : ∀ x ∈ levF (bytesOf s) (kindsP s), x = 0 := by
  have hb := base_one _ h
  intro x hx
  obtain ⟨k, hk, e⟩ := levels_one s (fun c hc h12 => by rw [hb]; exact h12.resolve_right (h c hc)) x hx
  rw [e, hb]
  unfold lev1
  rw [if_neg (by omega), if_neg (by omega)]
theorem two_levels (s : ByteArray) (h : ∀ c ∈ bytesOf s, strongP c = 0 ∨ strongP c = 2) : ∀ x ∈ levF (bytesOf s) (kindsP s), x = if has2 (bytesOf s) = true then 1 else 0 := by
  have hb := base_two _ h
  intro x hx
  obtain ⟨k, hk, e⟩ := levels_one s (fun c hc h12 => by
    have hc2 : strongP c = 2 := by
      rcases h c hc with h0 | h0
      · omega
      · exact h0
    rw [hb, if_pos (by unfold has2; rw [List.any_eq_true]; exact ⟨c, hc, by simpa using hc2⟩), hc2]) x hx
  have hk3 : k ≠ 3 := by
    obtain ⟨c, hc, e2⟩ := kindsP_mem s k hk
    have := h c hc
    omega
  rw [e, hb]
  cases has2 (bytesOf s) with
  | true =>
    unfold lev1
    rw [if_pos rfl, if_neg (by omega), if_pos rfl, if_pos rfl]
  | false => rfl
section
variable (s : ByteArray) (hs : s.size ≤ 120)
include hs
theorem plain_l4 (one two three : ByteArray) (I : Inv s s.size one two three) : ∀ (d j : Nat) , j + d = (levF (bytesOf two) (kindsP two)).length →
    Ev (fun k => abugidalaw07_OrderPlain.l4 k s true one two three (has2 (bytesOf two)) (levF (bytesOf two) (kindsP two)) ((levF (bytesOf two) (kindsP two)).length : Int) (j : Int)) true
  | 0, j, hj => by
    have hl2 := levF_length two
    have s1 := I.s1
    have s2 := I.s2
    have s3 := I.s3
    have c1 : one.size ≤ 9223372036854775807 := by omega
    have c2 : two.size ≤ 9223372036854775807 := by omega
    have e1 : ¬ (baseL (bytesOf one) == 2) = true := by rw [base_one _ I.h1]; decide
    have e2 : ((baseL (bytesOf two) == 2) == has2 (bytesOf two)) = true := by
      rw [base_two _ I.h2]
      cases has2 (bytesOf two) <;> rfl
    have e3 : levF (bytesOf three) (kindsP three) = levF (bytesOf s) (kindsP s) := by
      refine levels_feat three s ?_
      rw [I.h3, List.take_of_length_le (by rw [bytesOf_length]; exact Nat.le_refl _)]
    refine Ev.step (fun k => by rw [abugidalaw07_OrderPlain.l4, if_neg (by omega), if_pos rfl, order_Right.f, order_base.f, if_pos c1, Option.bind_some, Option.bind_some, if_neg e1, order_Right.f, order_base.f, if_pos c2, Option.bind_some, Option.bind_some, if_pos e2, order_Levels.f, levels_f three (by omega), Option.bind_some, order_Levels.f, levels_f s (by omega), Option.bind_some, e3]) ?_
    refine Ev.bind (g := fun k => abugidaref07_Equal.f k (levF (bytesOf s) (kindsP s)) (levF (bytesOf s) (kindsP s))) (equal_ev _ (by rw [levF_length]; omega)) ?_
    exact Ev.now _
  | d + 1, j, hj => by
    have hl2 := levF_length two
    have s2 := I.s2
    have ih := plain_l4 one two three I d (j + 1) (by omega)
    have hx := two_levels two I.h2
    have hr : rd (levF (bytesOf two) (kindsP two)) (j : Int) = if has2 (bytesOf two) = true then 1 else 0 := by
      refine hx _ ?_
      unfold rd
      rw [Int.toNat_natCast, List.getD_eq_getElem?_getD, List.getElem?_eq_getElem (show j < (levF (bytesOf two) (kindsP two)).length by omega)]
      exact List.getElem_mem _
    have hn : ¬ (has2 (bytesOf two) != (rd (levF (bytesOf two) (kindsP two)) (j : Int) == 1)) = true := by
      rw [hr]
      cases has2 (bytesOf two) <;> decide
    refine Ev.step (fun k => by rw [abugidalaw07_OrderPlain.l4, if_pos (by omega), if_pos (by omega), if_pos (by omega), if_neg hn, w64 ((j : Int) + 1) (by omega) (by omega)]) ?_
    exact ih
theorem plain_l3 (one two three : ByteArray) (I : Inv s s.size one two three) : ∀ (d j : Nat) , j + d = (levF (bytesOf one) (kindsP one)).length →
    Ev (fun k => abugidalaw07_OrderPlain.l3 k s true one two three (has2 (bytesOf two)) (levF (bytesOf one) (kindsP one)) ((levF (bytesOf one) (kindsP one)).length : Int) (j : Int)) true
  | 0, j, hj => by
    have hl1 := levF_length one
    have s1 := I.s1
    have s2 := I.s2
    refine Ev.step (fun k => by rw [abugidalaw07_OrderPlain.l3, if_neg (by omega), order_Levels.f, levels_f two (by omega), Option.bind_some]) ?_
    exact plain_l4 s hs one two three I (levF (bytesOf two) (kindsP two)).length 0 (by omega)
  | d + 1, j, hj => by
    have hl1 := levF_length one
    have s1 := I.s1
    have ih := plain_l3 one two three I d (j + 1) (by omega)
    have hr : rd (levF (bytesOf one) (kindsP one)) (j : Int) = 0 := by
      refine one_levels one I.h1 _ ?_
      unfold rd
      rw [Int.toNat_natCast, List.getD_eq_getElem?_getD, List.getElem?_eq_getElem (show j < (levF (bytesOf one) (kindsP one)).length by omega)]
      exact List.getElem_mem _
    refine Ev.step (fun k => by rw [abugidalaw07_OrderPlain.l3, if_pos (by omega), if_pos (by omega), if_pos (by omega), if_pos hr, w64 ((j : Int) + 1) (by omega) (by omega)]) ?_
    exact ih
theorem plain_l2 (one two three : ByteArray) (I : Inv s s.size one two three) : ∀ (d j : Nat) (st : Bool), j + d = two.size → st = has2 ((bytesOf two).take j) →
    Ev (fun k => abugidalaw07_OrderPlain.l2 k s true one two three st (j : Int)) true
  | 0, j, st, hj, hst => by
    have s1 := I.s1
    rw [List.take_of_length_le (by rw [bytesOf_length]; omega)] at hst
    subst hst
    refine Ev.step (fun k => by rw [abugidalaw07_OrderPlain.l2, if_neg (by omega), order_Levels.f, levels_f one (by omega), Option.bind_some]) ?_
    exact plain_l3 s hs one two three I (levF (bytesOf one) (kindsP one)).length 0 (by omega)
  | d + 1, j, st, hj, hst => by
    have s2 := I.s2
    have hget := bytes_get two j (by omega)
    have htk : (bytesOf two).take (j + 1) = (bytesOf two).take j ++ [bt two (j : Int)] := by
      rw [List.take_add_one, hget]
      rfl
    have hst2 : has2 ((bytesOf two).take (j + 1)) = (st || strongP (bt two (j : Int)) == 2) := by
      rw [htk, has2_app, hst]
    have ih := plain_l2 one two three I d (j + 1) (st || strongP (bt two (j : Int)) == 2) (by omega) hst2.symm
    cases st with
    | true =>
      refine Ev.step (fun k => by rw [abugidalaw07_OrderPlain.l2, if_pos (by omega), if_pos rfl, w64 ((j : Int) + 1) (by omega) (by omega)]) ?_
      exact ih
    | false =>
      refine Ev.step (fun k => by rw [abugidalaw07_OrderPlain.l2, if_pos (by omega), if_neg (by decide), if_pos (by omega), w64 ((j : Int) + 1) (by omega) (by omega)]) ?_
      exact Ev.bind (g := fun k => abugidaref05_Strong.f k (wrap64 (bt two (j : Int)))) (ev_strong two _) ih
theorem plain_l1 (one two three : ByteArray) (i : Nat) (hi : i < s.size) (h3 : three.size = i)
    (hk : ∀ o : Int, 0 ≤ o → o < 256 → feat o = feat (bt s (i : Int)) → Ev (fun k => abugidalaw07_OrderPlain.l0 k s true one two (three ++ strOfNums [o % 256]) ((i + 1 : Nat) : Int)) true) :
    ∀ (d j : Nat) (o : Int), j + d = (codesP (scrP (bt s (i : Int)))).length → 0 ≤ o → o < 256 → feat o = feat (bt s (i : Int)) →
    Ev (fun k => abugidalaw07_OrderPlain.l1 k s true one two three (i : Int) (bt s (i : Int)) o (codesP (scrP (bt s (i : Int)))) ((codesP (scrP (bt s (i : Int)))).length : Int) (j : Int)) true
  | 0, j, o, hj, o0, o1, ho => by
    have hsz : (strOfNums [o % 256]).size = 1 := rfl
    refine Ev.step (fun k => by rw [abugidalaw07_OrderPlain.l1, if_neg (by omega), Option.bind_some, if_pos (by rw [hsz]; omega), w64 ((i : Int) + 1) (by omega) (by omega)]) ?_
    exact hk o o0 o1 ho
  | d + 1, j, o, hj, o0, o1, ho => by
    have hr := bt_range s (i : Int)
    obtain ⟨_, hsc, _, _, _, _⟩ := char_at (bt s (i : Int)) hr.1 (by omega)
    obtain ⟨_, hlen, hcs⟩ := codes_at _ hsc.1 hsc.2
    have hmem : rd (codesP (scrP (bt s (i : Int)))) (j : Int) ∈ codesP (scrP (bt s (i : Int))) := by
      unfold rd
      rw [Int.toNat_natCast, List.getD_eq_getElem?_getD, List.getElem?_eq_getElem (show j < (codesP (scrP (bt s (i : Int)))).length by omega)]
      exact List.getElem_mem _
    obtain ⟨x0, x1, hx⟩ := hcs _ hmem
    refine Ev.step (fun k => by rw [abugidalaw07_OrderPlain.l1, if_pos (by omega), if_pos (by omega), if_pos (by omega), w64 ((j : Int) + 1) (by omega) (by omega)]) ?_
    refine Ev.bind (g := fun k => abugidaref05_Class.f k (rd (codesP (scrP (bt s (i : Int)))) (j : Int))) (ev_cls5 _ x0 x1) ?_
    refine Ev.bind (g := fun k => abugidaref05_Class.f k (bt s (i : Int))) (ev_cls5 _ hr.1 (by omega)) ?_
    by_cases he : hcls (rd (codesP (scrP (bt s (i : Int)))) (j : Int)) = hcls (bt s (i : Int))
    · refine Ev.congr (fun k => by rw [if_pos he]) ?_
      exact plain_l1 one two three i hi h3 hk d (j + 1) _ (by omega) x0 x1 (feat_of _ _ x0 x1 hr.1 (by omega) hx he)
    · refine Ev.congr (fun k => by rw [if_neg he]) ?_
      exact plain_l1 one two three i hi h3 hk d (j + 1) o (by omega) o0 o1 ho
theorem plain_j3 (one two three : ByteArray) (i : Nat) (hi : i < s.size) (s1 : one.size ≤ i + 1) (s2 : two.size ≤ i + 1) (s3 : three.size = i) (h1 : ∀ c ∈ bytesOf one, strongP c ≠ 2) (h2 : ∀ c ∈ bytesOf two, strongP c = 0 ∨ strongP c = 2)
    (h3 : (bytesOf three).map feat = ((bytesOf s).take i).map feat)
    (ih : ∀ a b c, Inv s (i + 1) a b c → Ev (fun k => abugidalaw07_OrderPlain.l0 k s true a b c ((i + 1 : Nat) : Int)) true) :
    Ev (fun k => abugidalaw07_OrderPlain.j3 k s true one two three (i : Int) (bt s (i : Int))) true := by
  have hr := bt_range s (i : Int)
  obtain ⟨hsf, hsc, _, _, _, _⟩ := char_at (bt s (i : Int)) hr.1 (by omega)
  obtain ⟨hcf, _, _⟩ := codes_at _ hsc.1 hsc.2
  refine Ev.step (fun k => by rw [abugidalaw07_OrderPlain.j3, hsf, Option.bind_some]) ?_
  refine Ev.bind (g := fun k => abugidaref05_Codes.f k (scrP (bt s (i : Int)))) (Ev.of (abugidaref05_Codes.mono _) hcf) ?_
  refine plain_l1 s hs one two three i hi s3 (fun o o0 o1 ho => ?_) _ 0 (bt s (i : Int)) (Nat.zero_add _) hr.1 (by omega) rfl
  refine ih _ _ _ ⟨s1, s2, ?_, h1, h2, ?_⟩
  · rw [ByteArray.size_append, s3]; rfl
  · rw [bytes_app, List.map_append, h3, bytes_one o o0 o1, List.take_add_one, bytes_get s i hi, List.map_append]
    simp only [Option.toList_some, List.map_cons, List.map_nil, ho]
theorem plain_j1 (one two three : ByteArray) (i : Nat) (hi : i < s.size) (s1 : one.size ≤ i + 1) (s2 : two.size ≤ i) (s3 : three.size = i) (h1 : ∀ c ∈ bytesOf one, strongP c ≠ 2) (h2 : ∀ c ∈ bytesOf two, strongP c = 0 ∨ strongP c = 2)
    (h3 : (bytesOf three).map feat = ((bytesOf s).take i).map feat)
    (ih : ∀ a b c, Inv s (i + 1) a b c → Ev (fun k => abugidalaw07_OrderPlain.l0 k s true a b c ((i + 1 : Nat) : Int)) true) :
    Ev (fun k => abugidalaw07_OrderPlain.j1 k s true one two three (i : Int) (bt s (i : Int)) (strongP (bt s (i : Int)))) true := by
  have hr := bt_range s (i : Int)
  have hcz := cut_size s i hi
  have fin : ∀ b : Bool, (b = true → strongP (bt s (i : Int)) = 0 ∨ strongP (bt s (i : Int)) = 2) → Ev (fun k => abugidalaw07_OrderPlain.j2 k s true one two three (i : Int) (bt s (i : Int)) b) true := fun b hb => by
    cases b with
    | false =>
      refine Ev.step (fun k => by rw [abugidalaw07_OrderPlain.j2, if_neg (by decide)]) ?_
      exact plain_j3 s hs one two three i hi s1 (by omega) s3 h1 h2 h3 ih
    | true =>
      refine Ev.step (fun k => by rw [abugidalaw07_OrderPlain.j2, if_pos rfl, if_pos (by omega), w64 ((i : Int) + 1) (by omega) (by omega), if_pos (by omega), if_pos (by omega), show ((i : Int) + 1).toNat = i + 1 by omega, Int.toNat_natCast, hcz, if_pos (by omega)]) ?_
      refine plain_j3 s hs one (two ++ s.extract i (i + 1)) three i hi s1 (by rw [ByteArray.size_append, hcz]; omega) s3 h1 (fun c hc => ?_) h3 ih
      rw [bytes_app, bytes_cut s i hi] at hc
      rcases List.mem_append.mp hc with hc | hc
      · exact h2 c hc
      · rw [List.mem_singleton.mp hc]; exact hb rfl
  by_cases e1 : strongP (bt s (i : Int)) = 1
  · refine Ev.step (fun k => by rw [abugidalaw07_OrderPlain.j1, if_pos e1]) ?_
    exact fin false (fun h => by cases h)
  · refine Ev.step (fun k => by rw [abugidalaw07_OrderPlain.j1, if_neg e1]) ?_
    refine fin _ (fun h => ?_)
    have h3 : strongP (bt s (i : Int)) ≠ 3 := by simpa using h
    have := strong_vals _ hr.1 (by omega)
    omega
theorem plain_l0 : ∀ (d i : Nat) (one two three : ByteArray), i + d = s.size → Inv s i one two three → Ev (fun k => abugidalaw07_OrderPlain.l0 k s true one two three (i : Int)) true
  | 0, i, one, two, three, hi, I => by
    refine Ev.step (fun k => by rw [abugidalaw07_OrderPlain.l0, if_neg (by omega)]) ?_
    obtain rfl : i = s.size := by omega
    exact plain_l2 s hs one two three I two.size 0 false (Nat.zero_add _) (by simp [has2])
  | d + 1, i, one, two, three, hi, I => by
    have ih := fun a b c (I : Inv s (i + 1) a b c) => plain_l0 d (i + 1) a b c (by omega) I
    have hcz := cut_size s i (by omega)
    have s1 := I.s1
    have hr := bt_range s (i : Int)
    have hb : wrap64 (bt s (i : Int)) = bt s (i : Int) := bt255 s _
    refine Ev.step (fun k => by rw [abugidalaw07_OrderPlain.l0, if_pos (by omega), if_pos (by omega)]) ?_
    refine Ev.bind (g := fun k => abugidaref05_Strong.f k (wrap64 (bt s (i : Int)))) (ev_strong s _) ?_
    by_cases e2 : strongP (bt s (i : Int)) = 2
    · refine Ev.congr (fun k => by rw [if_pos e2, hb]) ?_
      exact plain_j1 s hs one two three i (by omega) (by omega) I.s2 I.s3 I.h1 I.h2 I.h3 ih
    · have c1 : (i : Int) ≤ (i : Int) + 1 := by omega
      have c2 : (i : Int) + 1 ≤ (s.size : Int) := by omega
      have c3 : one.size + 1 ≤ 9223372036854775807 := by omega
      have c4 : ((i : Int) + 1).toNat = i + 1 := by omega
      refine Ev.congr (fun k => by rw [if_neg e2, hb, w64 ((i : Int) + 1) (by omega) (by omega), if_pos c1, if_pos c2, c4, Int.toNat_natCast, hcz, if_pos c3]) ?_
      refine plain_j1 s hs (one ++ s.extract i (i + 1)) two three i (by omega) (by rw [ByteArray.size_append, hcz]; omega) I.s2 I.s3 (fun c hc => ?_) I.h2 I.h3 ih
      rw [bytes_app, bytes_cut s i (by omega)] at hc
      rcases List.mem_append.mp hc with hc | hc
      · exact I.h1 c hc
      · rw [List.mem_singleton.mp hc]; exact e2
end
end Pln
open Pln in
theorem OrderPlain : abugidalaw07_OrderPlain.Pure := by
  intro a0 h0
  refine Ev.rounds ?_
  refine Ev.bind (g := fun k => abugidalaw07_sanity.f k) ev_sane ?_
  obtain ⟨n, hn, hn6, hnl⟩ : ∃ n : Nat, mn (a0.size : Int) 120 = (n : Int) ∧ n ≤ 120 ∧ n ≤ a0.size := by
    unfold mn
    split
    · exact ⟨120, rfl, Nat.le_refl _, by omega⟩
    · exact ⟨a0.size, rfl, by omega, Nat.le_refl _⟩
  have hA : (a0.extract 0 n).size = n := by rw [ByteArray.size_extract]; omega
  refine Ev.congr (fun k => by rw [abugidalaw07_short.f, hn, if_pos (by omega), if_pos (by omega), Int.toNat_natCast, Option.bind_some]) ?_
  exact plain_l0 (a0.extract 0 n) (by omega) n 0 ⟨#[]⟩ ⟨#[]⟩ ⟨#[]⟩ (by omega) ⟨Nat.le_refl _, Nat.le_refl _, rfl, (fun c hc => by cases hc), (fun c hc => by cases hc), rfl⟩
end Go.Proofs.Ytacnckneiklgpaa.Pure

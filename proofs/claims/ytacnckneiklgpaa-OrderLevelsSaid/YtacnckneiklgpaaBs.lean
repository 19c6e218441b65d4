/- order.base: the first strong character of a text; a text's bytes as a thing of one's own. -/
import Derived.Test.YtacnckneiklgpaaHw
import Derived.Test.YtacnckneiklgpaaQx3
namespace Go.Proofs.Ytacnckneiklgpaa.Q
open Go.RowKit Go.Proofs.YtacnckneiklgpaaW.PrintWords Go.Proofs.YtacnckneiklgpaaW.PrintLast Go.Proofs.YtacnckneiklgpaaW.PrintMore
set_option linter.unusedSimpArgs false
set_option linter.unusedVariables false

/-- The bytes of a text in memory: only read. -/
def Res.bytes (g : Nat) (s : ByteArray) : Res := ⟨fun W ok => ok g ∧ ∃ cs t fz, W.heap[g]? = some (.cells cs t fz) ∧ ∀ j, j < s.size → cs[j]? = some (.int .u8 ((bytesOf s).getD j 0)), fun {W W' ok ok'} h hm => by
  obtain ⟨h1, cs, t, fz, h2, h3⟩ := h
  have h4 := hm g h1 (blk_lt h2) (solid_cells h2)
  exact ⟨h4.2, cs, t, fz, h4.1.trans h2, h3⟩⟩
section
variable {P : Program} {ops : Array Oper} {Q : Exit → Act → World → Prop} {o : Oper} {rest : List Oper} {a : Act} {w W : World} {L : List Res} {K : Nat → Obj → Prop}
theorem ev_bytes {N : Nat} (HO : Own w W L K) (hgd : o.guard = none) (_hd : o.dst = some N) (src dst e : TypeId) {u : TypeDesc} (x : Operand) (ho : o.op = .convert src dst x) (hs : P.underlying src = some u) (hd : P.underlying dst = some (.slice e)) (he : P.underlying e = some (.int .u8)) (s : ByteArray) (hx : a.eval x = .string s)
    (h : ∀ g c W', Own w W' (L ++ [.bytes g s]) K → Below W.heap.size W W' → wpList P ops Q rest (a.put o.dst (.slice (some ⟨g, 0, none⟩) s.size c)) W') : wpList P ops Q (o :: rest) a W := by
  have hrun : (execOp a.eval o).run P W = .ok (.value (.slice (some ⟨W.heap.size, 0, none⟩) s.size (grownCap W s.size 0 e))) (Lib.bytesWorld W e s) := by
    have h1 := print_bytes (P := P) src dst e hs hd he s W
    simp only [execOp, ho, hx, Sem.run_bind, h1, Result.andThen_ok, Sem.run_pure]
  have hb : Below W.heap.size W (Lib.bytesWorld W e s) := bytes_below (Below.refl _ _) (Nat.le_refl _) e s
  refine Kd.event_run hgd hrun (h _ _ _ (HO.add hb ⟨Nat.le_refl _, _, _, _, Lib.bytesWorld_at_new W e s, fun j hj => ?_⟩) hb)
  have h' : j < s.data.toList.length := by rw [data_length]; exact hj
  simp [Lib.bytesCells, Array.getElem?_append, hj, bytesOf, List.getD_eq_getElem?_getD]
theorem Own.byte_cell {g : Nat} {s : ByteArray} (h : Own w W L K) (i : Nat) (hi : L[i]? = some (.bytes g s)) (j : Nat) (hj : j < s.size) : W.cell? ⟨g, j, none⟩ = some (.int .u8 ((bytesOf s).getD j 0)) := by
  obtain ⟨_, _, F, h2⟩ := h
  obtain ⟨_, cs, t, fz, h3, h4⟩ := h2 i _ hi
  exact (cell_of_row W g j cs t fz h3).trans (h4 j hj)
end
theorem bytes_range (s : ByteArray) (j : Nat) : 0 ≤ (bytesOf s).getD j 0 ∧ (bytesOf s).getD j 0 ≤ 255 := by
  rw [List.getD_eq_getElem?_getD]
  cases h : (bytesOf s)[j]? with
  | none => simp
  | some v =>
    simp only [bytesOf, List.getElem?_map, Option.map_eq_some_iff] at h
    obtain ⟨b, _, rfl⟩ := h
    have := b.toNat_lt
    simp
    omega
def strongP (c : Int) : Int := (chars_Strong.f 40 c).getD 0
theorem strongP_all : ∀ c : Fin 256, (chars_Strong.f 40 (c.val : Int)).isSome = true := by decide +kernel
theorem strongP_some {c : Int} (h0 : 0 ≤ c) (h1 : c ≤ 255) : chars_Strong.f 40 c = some (strongP c) := by
  obtain ⟨n, rfl⟩ := Int.eq_ofNat_of_zero_le h0
  have h := strongP_all ⟨n, by omega⟩
  unfold strongP
  obtain ⟨v, hv⟩ := Option.isSome_iff_exists.mp h
  dsimp only at hv
  rw [hv]
  rfl
/-- The base of a text: that of its first strong character. -/
def baseL : List Int → Int
  | [] => 1
  | c :: r => if strongP c = 1 ∨ strongP c = 2 then strongP c else baseL r
set_option maxRecDepth 100000 in
set_option maxHeartbeats 4000000 in
theorem base_calls (s : ByteArray) (hs : s.size ≤ 9223372036854775807) (w : World) : Calls Try.prog 28 #[.string s] w fun e w' => e = .returned (.int .i64 (baseL (bytesOf s))) ∧ Below w.heap.size w w' := by
  have HS := Aside0.mk hs
  have HO := Own.start w
  have hsm : (s.size : Int) ≤ 9223372036854775807 := by omega
  clear hs
  go_enter Try.func28, Try.ntmps28
  go_wp2_with (first
    | ((with_reducible refine gate_dst (N := 7) rfl ?_); refine ev_bytes (N := 7) HO rfl rfl 9 33 5 (.tmp 6) rfl Try.underlying9 Try.underlying33 Try.underlying5 s rfl ?_; intro g7 c7 W1 HO1 hb1; clear HO hb1))
  go_loopw [9] (fun v9 w' => ∃ (k : Nat), v9 = .int .i64 k ∧ Aside0 (k ≤ s.size) ∧ Aside0 (baseL (bytesOf s) = baseL ((bytesOf s).drop k)) ∧ Aside0 (Own w w' [.bytes g7 s])) (fun v9 _ => s.size - (intOf v9).toNat)
  case atStart => exact ⟨0, rfl, ⟨Nat.zero_le _⟩, ⟨rfl⟩, ⟨HO1⟩⟩
  case round =>
    clear HO1
    obtain ⟨k, rfl, HK, HB, HOO⟩ := hrel
    have HO := HOO.out
    clear HOO
    by_cases hlt : k < s.size
    case neg =>
      have hkl : k = s.size := by have := HK.out; omega
      have q1 : ¬ ((k : Int) < (s.size : Int)) := by omega
      have HE := Aside0.mk (show baseL (bytesOf s) = 1 by rw [HB.out, List.drop_of_length_le (by rw [bytesOf_length]; omega)]; rfl)
      clear hlt hkl
      go_wp2
      go_ret
      exact ⟨by rw [HE.out]; rfl, HO.below⟩
    have q1 : ((k : Int) < (s.size : Int)) = True := eq_true (by omega)
    have p1 : (0 ≤ (k : Int)) = True := eq_true (by omega)
    have hkb : (k : Int) + 1 ≤ 9223372036854775807 := by omega
    have hlb : k < (bytesOf s).length := by rw [bytesOf_length]; exact hlt
    have x0 := HO.byte_cell 0 rfl k hlt
    have hrg := bytes_range s k
    have hdr : (bytesOf s).drop k = (bytesOf s).getD k 0 :: (bytesOf s).drop (k + 1) := by rw [List.drop_eq_getElem_cons hlb, List.getD_eq_getElem?_getD, List.getElem?_eq_getElem hlb]; rfl
    obtain ⟨b, hb⟩ : ∃ b, (bytesOf s).getD k 0 = b := ⟨_, rfl⟩
    rw [hb] at x0 hrg hdr
    have HST := Aside0.mk (strongP_some hrg.1 hrg.2)
    have HKL := Aside0.mk hlt
    have hw : IntKind.i64.wrap b = b := IntWalk.i64_in b (by omega)
    obtain ⟨t, ht⟩ : ∃ t, strongP b = t := ⟨_, rfl⟩
    rw [ht] at HST
    have HB2 := Aside0.mk (show baseL (bytesOf s) = if t = 1 ∨ t = 2 then t else baseL ((bytesOf s).drop (k + 1)) by rw [HB.out, hdr, baseL, ht])
    clear hlt hb hdr ht hlb HB hrg
    by_cases h1 : t = 1
    · subst h1
      go_wp2_with (first
        | (go_at_call 41; (with_reducible refine (chars_Strong.calls 40 b 1 _ HST.out).mono ?_); rintro e W2 ⟨rfl, hb2⟩; have HO2 := HO.grow hb2; clear HO hb2))
      go_ret
      exact ⟨by rw [HB2.out]; rfl, HO2.below⟩
    · by_cases h2 : t = 2
      · subst h2
        clear h1
        go_wp2_with (first
          | (go_at_call 41; (with_reducible refine (chars_Strong.calls 40 b 2 _ HST.out).mono ?_); rintro e W2 ⟨rfl, hb2⟩; have HO2 := HO.grow hb2; clear HO hb2))
        go_ret
        exact ⟨by rw [HB2.out]; rfl, HO2.below⟩
      · have b1 : (t == 1) = false := beq_eq_false_iff_ne.mpr h1
        have b2 : (t == 2) = false := beq_eq_false_iff_ne.mpr h2
        have HB3 := Aside0.mk (show baseL (bytesOf s) = baseL ((bytesOf s).drop (k + 1)) by rw [HB2.out, if_neg (by omega)])
        clear h1 h2
        go_wp2_with (first
          | (go_at_call 41; (with_reducible refine (chars_Strong.calls 40 b t _ HST.out).mono ?_); rintro e W2 ⟨rfl, hb2⟩; have HO2 := HO.grow hb2; clear HO hb2))
        go_roundw
        case rel => exact ⟨k + 1, by go_num, ⟨HKL.out⟩, HB3, ⟨HO2⟩⟩
        case measure => have := HKL.out; simp [intOf]; omega
end Go.Proofs.Ytacnckneiklgpaa.Q

/- [2]int as a parameter. -/
import Derived.Test.YtnnkbcgoockniaaOpn
import Derived.Test.YtnnkbcgoockniaaT
namespace Go.Proofs.Ytnnkbcgoockniaa.Q
open Go.RowKit Go.Proofs.YtnnkbcgoockniaaW.PrintWords Go.ChangeShapes Go.WideShapes
theorem open_ii {H : Type} {enc : TypeId × Value → H} {W : World} {base b0 : Nat} {sp : Nat → Bool} {held : Bool} {r : Reach} {v : Value} {d : DataW H} {ps : List MemPlace} (hval : Value.okWide Try.prog W r b0 37 v) (hd : DataW.Trod enc Try.prog W base sp held 37 v d ps) : ∃ a b, v = .agg #[.int .i64 a, .int .i64 b] := by
  simp only [Value.okWide, Try.underlying37] at hval
  obtain ⟨cs, rfl, h2, _⟩ := hval
  obtain ⟨fuel, hf⟩ := hd
  obtain ⟨xs, m, _, _, hl, hxl, hx⟩ := DataW.trod_array Try.underlying37 hf
  have hc : Try.prog.cellsOf 3 = 1 := by kernel_rfl
  rw [hc] at hx
  obtain ⟨y0, y1, rfl⟩ : ∃ a b, cs = #[a, b] := by
    have hs : cs.size = 2 := by rw [h2]; kernel_rfl
    match cs, hs with
    | ⟨[a, b]⟩, _ => exact ⟨a, b, rfl⟩
  have e0 := hx 0 (by decide)
  have e1 := hx 1 (by decide)
  rw [List.getElem?_eq_getElem (by omega)] at e0 e1
  obtain ⟨a, ha, -, -⟩ := DataW.trod_int Try.underlying3 e0
  obtain ⟨b, hb, -, -⟩ := DataW.trod_int Try.underlying3 e1
  simp [Value.cells] at ha hb
  exact ⟨a, b, by rw [ha, hb]⟩
end Go.Proofs.Ytnnkbcgoockniaa.Q

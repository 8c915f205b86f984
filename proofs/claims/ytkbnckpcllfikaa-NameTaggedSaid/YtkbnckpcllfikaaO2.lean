/- Arguments that are arrays of two texts, opened. -/
import Derived.Test.YtkbnckpcllfikaaB0
import Derived.ChangeArms
import Derived.OpenShut
import Derived.DataReads
import Derived.WideShapes
namespace Go.Proofs.Ytkbnckpcllfikaa.Gen
open Go.RowKit Go.Proofs.YtkbnckpcllfikaaW.PrintWords Go.Proofs.YtkbnckpcllfikaaW.PrintLast Go.Proofs.YtkbnckpcllfikaaW.PrintMore
set_option linter.unusedVariables false
set_option linter.unusedSimpArgs false
theorem okWide_array {P : Program} {t : TypeId} {w : World} {r : Reach} {base : Nat} {v : Value} {n : Nat} {e : TypeId} (ht : P.underlying t = some (.array n e)) (h : Value.okWide P w r base t v) : ∃ cs, v = .agg cs ∧ cs.size = P.cellsOf t := by
  simp only [Value.okWide, ht] at h
  obtain ⟨cs, h1, h2, _⟩ := h
  exact ⟨cs, h1, h2⟩
theorem open_arr2 {H : Type} {enc : TypeId × Value → H} {P : Program} {w : World} {base : Nat} {spare : Nat → Bool} {held : Bool} {fuel : Nat} {t e : TypeId} {cs : List Value} {y : DataW H × List MemPlace} (ht : P.underlying t = some (.array 2 e)) (he : P.underlying e = some .string) (hc : P.cellsOf e = 1) (hct : P.cellsOf t = 2)
    (h : DataW.trod enc P w base spare held fuel t cs = some y) : ∃ s1 s2 : ByteArray, cs = [.string s1, .string s2] ∧ s1.size ≤ maxLen ∧ s2.size ≤ maxLen := by
  obtain ⟨xs, m, _, _, hl, hx, hel⟩ := DataW.trod_array ht h
  rw [hct] at hl
  have h0 := hel 0 (by omega)
  have h1 := hel 1 (by omega)
  rw [hc] at h0 h1
  obtain ⟨a, b, rfl⟩ : ∃ a b, cs = [a, b] := by
    match cs, hl with
    | [a, b], _ => exact ⟨a, b, rfl⟩
  have g0 : xs[0]? = some xs[0] := List.getElem?_eq_getElem (by omega)
  have g1 : xs[1]? = some xs[1] := List.getElem?_eq_getElem (by omega)
  rw [g0] at h0
  rw [g1] at h1
  obtain ⟨s1, e1, _, z1⟩ := DataW.trod_string he h0
  obtain ⟨s2, e2, _, z2⟩ := DataW.trod_string he h1
  simp at e1 e2
  exact ⟨s1, s2, by rw [e1, e2], z1, z2⟩
end Go.Proofs.Ytkbnckpcllfikaa.Gen

/- The head of the statements on names: the document's examples. -/
import Derived.Test.YtkbnckpcllfikaaM6
namespace Go.Proofs.Ytkbnckpcllfikaa.Nam
open Go.RowKit Go.Proofs.YtkbnckpcllfikaaW.PrintWords Go.Proofs.YtkbnckpcllfikaaW.PrintLast Go.Proofs.YtkbnckpcllfikaaW.PrintMore Go.Proofs.Ytkbnckpcllfikaa.Num Go.Proofs.Ytkbnckpcllfikaa.Prt
set_option linter.unusedVariables false
set_option linter.unusedSimpArgs false

theorem ex1 : mayL (bytesOf ⟨#[107, 117, 110, 100, 101, 45, 55]⟩) = true := by
  refine may_of (by decide) (by decide) ?_
  show lettersOnly [107, 117, 110, 100, 101, 45, 55] = true
  repeat rw [lo1 (by decide)]
  exact lettersOnly_nil
theorem ex2 : mayL (bytesOf ⟨#[55]⟩) = false := may_first (by decide)
theorem ex3 : mayL (bytesOf ⟨#[195, 132]⟩) = false := may_bad (lettersOnly_bad (by decide) (by decide))
theorem ex4 : (⟨#[195, 184, 114, 115, 116, 101, 100, 45, 97, 45, 98]⟩ : ByteArray) = strOfNums (foldL (bytesOf ⟨#[195, 152, 114, 115, 116, 101, 100, 32, 65, 46, 66]⟩)) := by
  have e : foldL (bytesOf ⟨#[195, 152, 114, 115, 116, 101, 100, 32, 65, 46, 66]⟩) = [195, 184, 114, 115, 116, 101, 100, 45, 97, 45, 98] := by
    show foldL [195, 152, 114, 115, 116, 101, 100, 32, 65, 46, 66] = _
    rw [fo_big (o := [195, 184]) (by decide) (by decide), fo1 (by decide), fo1 (by decide), fo1 (by decide), fo1 (by decide), fo1 (by decide), fo_sp (by decide), fo_up (by decide) (by decide), fo_sp (by decide), fo_up (by decide) (by decide), foldL_nil]
    rfl
  rw [e]; rfl
theorem ex5 : mayL (bytesOf ⟨#[107, 117, 110, 100, 101]⟩) = true := by
  refine may_of (by decide) (by decide) ?_
  show lettersOnly [107, 117, 110, 100, 101] = true
  repeat rw [lo1 (by decide)]
  exact lettersOnly_nil
theorem ex6 : mayL (bytesOf ⟨#[120, 55]⟩) = true := by
  refine may_of (by decide) (by decide) ?_
  show lettersOnly [120, 55] = true
  repeat rw [lo1 (by decide)]
  exact lettersOnly_nil
theorem ex7 : ((⟨#[107, 117, 110, 100, 101]⟩ ++ ⟨#[58]⟩ ++ ⟨#[120, 55]⟩ : ByteArray).toList == ([107, 117, 110, 100, 101, 58, 120, 55] : List UInt8)) = true := by
  rw [ByteArray.toList_eq]
  rfl
theorem shown_calls (w : World) : Calls Try.prog 11 #[] w fun e w' => e = .returned (.bool true) ∧ Below w.heap.size w w' := by
  have HB := Aside0.mk (Below.refl w.heap.size w)
  go_enter Try.func11, Try.ntmps11
  go_wp2_with fail
  refine (mayC true _ _ (by decide) ex1).mono ?_

  rintro e w_ ⟨rfl, hb⟩
  have n_ := Aside0.mk (below_step (by repeat (first | (with_reducible first | exact HB.out | apply below_alloc | apply pw_below_drewN | apply below_drew1) | exact HB.out)) hb); clear HB hb; have HB := n_; clear n_
  go_wp2_with fail
  refine (mayC false _ _ (by decide) ex2).mono ?_

  rintro e w_ ⟨rfl, hb⟩
  have n_ := Aside0.mk (below_step (by repeat (first | (with_reducible first | exact HB.out | apply below_alloc | apply pw_below_drewN | apply below_drew1) | exact HB.out)) hb); clear HB hb; have HB := n_; clear n_
  go_wp2_with fail
  refine (mayC false _ _ (by decide) ex3).mono ?_

  rintro e w_ ⟨rfl, hb⟩
  have n_ := Aside0.mk (below_step (by repeat (first | (with_reducible first | exact HB.out | apply below_alloc | apply pw_below_drewN | apply below_drew1) | exact HB.out)) hb); clear HB hb; have HB := n_; clear n_
  go_wp2_with fail
  refine (foldC _ _ _ (by decide) ex4).mono ?_

  rintro e w_ ⟨rfl, hb⟩
  have n_ := Aside0.mk (below_step (by repeat (first | (with_reducible first | exact HB.out | apply below_alloc | apply pw_below_drewN | apply below_drew1) | exact HB.out)) hb); clear HB hb; have HB := n_; clear n_
  go_wp2_with fail
  refine (tagNo _ _ _ (by decide) (by decide) (.inr ex2)).mono ?_

  rintro e w_ ⟨rfl, hb⟩
  have n_ := Aside0.mk (below_step (by repeat (first | (with_reducible first | exact HB.out | apply below_alloc | apply pw_below_drewN | apply below_drew1) | exact HB.out)) hb); clear HB hb; have HB := n_; clear n_
  go_wp2_with fail
  refine (tagYes _ _ _ (by decide) (by decide) ex5 ex6).mono ?_
  have h7 := ex7
  rintro e w_ ⟨rfl, hb⟩
  have n_ := Aside0.mk (below_step (by repeat (first | (with_reducible first | exact HB.out | apply below_alloc | apply pw_below_drewN | apply below_drew1) | exact HB.out)) hb); clear HB hb; have HB := n_; clear n_
  go_wp2
  go_ret
  exact ⟨rfl, (by repeat (first | (with_reducible first | exact HB.out | apply below_alloc | apply pw_below_drewN | apply below_drew1) | exact HB.out))⟩
end Go.Proofs.Ytkbnckpcllfikaa.Nam

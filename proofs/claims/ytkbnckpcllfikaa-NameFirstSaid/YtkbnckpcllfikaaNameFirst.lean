/- The statement NameFirst: the walk of the law. -/
import Derived.Test.YtkbnckpcllfikaaM11
namespace Go.Proofs.Ytkbnckpcllfikaa.Nam
open Go.RowKit Go.Proofs.YtkbnckpcllfikaaW.PrintWords Go.Proofs.YtkbnckpcllfikaaW.PrintLast Go.Proofs.YtkbnckpcllfikaaW.PrintMore Go.Proofs.Ytkbnckpcllfikaa.Num Go.Proofs.Ytkbnckpcllfikaa.Prt
set_option linter.unusedVariables false
set_option linter.unusedSimpArgs false
theorem first_law (s1 : ByteArray) (w : World) (ws1 : s1.size ≤ 140737488351232) :
    Calls Try.prog 9 #[.string s1] w fun e w' => e = .returned (.bool true) ∧ Below w.heap.size w w' := by
  have HB := Aside0.mk (Below.refl w.heap.size w)
  go_enter Try.func9, Try.ntmps9
  go_wp2_with fail
  refine (shown_calls _).mono ?_

  rintro e w_ ⟨rfl, hb⟩
  have n_ := Aside0.mk (below_step (by repeat (first | (with_reducible first | exact HB.out | apply below_alloc | apply pw_below_drewN | apply below_drew1) | exact HB.out)) hb); clear HB hb; have HB := n_; clear n_
  go_wp2_with fail
  refine (short_calls s1 _ (by omega)).mono ?_
  rintro e w_ ⟨rfl, rfl⟩
  obtain ⟨a, ht⟩ : ∃ t, t = sh s1 := ⟨_, rfl⟩
  have hz_a : a.size ≤ 60 := by rw [ht]; exact sh_size s1
  rw [← ht]
  clear ht
  go_wp2_with fail
  cases ha : mayL (bytesOf a) with
  | false =>
    refine (mayC false a _ (by omega) ha).mono ?_

    rintro e w_ ⟨rfl, hb⟩
    have n_ := Aside0.mk (below_step (by repeat (first | (with_reducible first | exact HB.out | apply below_alloc | apply pw_below_drewN | apply below_drew1) | exact HB.out)) hb); clear HB hb; have HB := n_; clear n_
    go_wp2
    go_ret
    exact ⟨rfl, (by repeat (first | (with_reducible first | exact HB.out | apply below_alloc | apply pw_below_drewN | apply below_drew1) | exact HB.out))⟩
  | true =>
    refine (mayC true a _ (by omega) ha).mono ?_

    rintro e w_ ⟨rfl, hb⟩
    have n_ := Aside0.mk (below_step (by repeat (first | (with_reducible first | exact HB.out | apply below_alloc | apply pw_below_drewN | apply below_drew1) | exact HB.out)) hb); clear HB hb; have HB := n_; clear n_
    have HA := Aside0.mk ha
    obtain ⟨h1, h2, h3, h4⟩ := may_parts ha
    rw [bytes_length] at h1 h2
    have sz : ∀ x y : ByteArray, (x ++ y).size = x.size + y.size := fun x y => ByteArray.size_append
    have q1 : (⟨#[97, 58]⟩ : ByteArray).size = 2 := rfl
    have q2 : (⟨#[55]⟩ : ByteArray).size = 1 := rfl
    have q3 : (⟨#[45]⟩ : ByteArray).size = 1 := rfl
    have q4 : (⟨#[58]⟩ : ByteArray).size = 1 := rfl
    have q5 : (⟨#[58, 98]⟩ : ByteArray).size = 2 := rfl
    have q6 : (⟨#[58, 55]⟩ : ByteArray).size = 2 := rfl
    have q7 : (⟨#[95]⟩ : ByteArray).size = 1 := rfl
    have z1 := Aside0.mk (show ((⟨#[97, 58]⟩ : ByteArray) ++ a).size ≤ 1000000 by rw [sz]; omega)
    have z2 := Aside0.mk (show ((⟨#[55]⟩ : ByteArray) ++ a).size ≤ 1000000 by rw [sz]; omega)
    have z3 := Aside0.mk (show ((⟨#[45]⟩ : ByteArray) ++ a).size ≤ 1000000 by rw [sz]; omega)
    have z4 := Aside0.mk (show (a ++ (⟨#[58]⟩ : ByteArray)).size ≤ 1000000 by rw [sz]; omega)
    have z5 := Aside0.mk (show ((⟨#[58]⟩ : ByteArray) ++ a).size ≤ 1000000 by rw [sz]; omega)
    have z6 := Aside0.mk (show (a ++ (⟨#[58, 98]⟩ : ByteArray)).size ≤ 1000000 by rw [sz]; omega)
    have z7 := Aside0.mk (show (a ++ (⟨#[58, 55]⟩ : ByteArray)).size ≤ 1000000 by rw [sz]; omega)
    have z8 := Aside0.mk (show ((⟨#[95]⟩ : ByteArray) ++ a).size ≤ 1000000 by rw [sz]; omega)
    have m1 := Aside0.mk (show mayL (bytesOf ((⟨#[55]⟩ : ByteArray) ++ a)) = false by rw [bytes_append]; exact may_first rfl)
    have m2 := Aside0.mk (show mayL (bytesOf ((⟨#[45]⟩ : ByteArray) ++ a)) = false by rw [bytes_append]; exact may_first rfl)
    have m3 := Aside0.mk (show mayL (bytesOf (a ++ (⟨#[58]⟩ : ByteArray))) = false by
      rw [bytes_append]
      refine may_bad ?_
      rw [lettersOnly_app _ h4]
      exact lettersOnly_bad (by decide) (by decide))
    have m4 := Aside0.mk (show mayL (bytesOf ((⟨#[58]⟩ : ByteArray) ++ a)) = false by
      rw [bytes_append]
      refine may_bad (lettersOnly_bad ?_ (by simp [bytesOf]))
      exact (letD0 (c := 58) (r := bytesOf a) (by decide) (by decide) (by decide)).1)
    have m5 := Aside0.mk (name_noTag ha)
    have mb : mayL (bytesOf (⟨#[98]⟩ : ByteArray)) = true := by
      refine may_of (by decide) (by decide) ?_
      show lettersOnly [98] = true
      rw [lo1 (by decide), lettersOnly_nil]
    have m6 := Aside0.mk (show IsTag (a ++ (⟨#[58, 98]⟩ : ByteArray)) from ⟨a, ⟨#[98]⟩, by rw [ByteArray.append_assoc]; rfl, ha, mb⟩)
    have m7 := Aside0.mk (show ¬ IsTag (a ++ (⟨#[58, 55]⟩ : ByteArray)) by
      have := badTag (b := ⟨#[55]⟩) ha ex2
      rw [ByteArray.append_assoc] at this
      exact this)
    have m8 := Aside0.mk (show a.size ≤ 23 → mayL (bytesOf ((⟨#[95]⟩ : ByteArray) ++ a)) = true from fun h => by
      rw [bytes_append]
      refine may_of ?_ rfl ?_
      · have e1 := bytes_length a
        have e2 : (bytesOf (⟨#[95]⟩ : ByteArray)).length = 1 := rfl
        rw [List.length_append]
        omega
      · show lettersOnly (95 :: bytesOf a) = true
        rw [lo1 (by decide), h4])
    have m9 := Aside0.mk (show (⟨#[97, 58]⟩ : ByteArray) ++ a = (⟨#[97]⟩ : ByteArray) ++ (⟨#[58]⟩ : ByteArray) ++ a from rfl)
    have m10 := Aside0.mk (show mayL (bytesOf (⟨#[97]⟩ : ByteArray)) = true by
      refine may_of (by decide) (by decide) ?_
      show lettersOnly [97] = true
      rw [lo1 (by decide), lettersOnly_nil])
    have s2 : 2 + a.size ≤ 9223372036854775807 := by omega
    have s3 : 1 + a.size ≤ 9223372036854775807 := by omega
    have s4 : a.size + 1 ≤ 9223372036854775807 := by omega
    have s5 : a.size + 2 ≤ 9223372036854775807 := by omega
    clear ha h1 h2 h3 h4 sz q1 q2 q3 q4 q5 q6 q7 mb
    go_wp2_with fail
    refine (partsYes ⟨#[97]⟩ a _ _ m9.out m10.out HA.out z1.out).mono ?_

    rintro e w_ ⟨rfl, hb⟩
    have n_ := Aside0.mk (below_step (by repeat (first | (with_reducible first | exact HB.out | apply below_alloc | apply pw_below_drewN | apply below_drew1) | exact HB.out)) hb); clear HB hb; have HB := n_; clear n_
    go_wp2_with fail
    refine (mayC false _ _ z2.out m1.out).mono ?_

    rintro e w_ ⟨rfl, hb⟩
    have n_ := Aside0.mk (below_step (by repeat (first | (with_reducible first | exact HB.out | apply below_alloc | apply pw_below_drewN | apply below_drew1) | exact HB.out)) hb); clear HB hb; have HB := n_; clear n_
    go_wp2_with fail
    refine (mayC false _ _ z3.out m2.out).mono ?_

    rintro e w_ ⟨rfl, hb⟩
    have n_ := Aside0.mk (below_step (by repeat (first | (with_reducible first | exact HB.out | apply below_alloc | apply pw_below_drewN | apply below_drew1) | exact HB.out)) hb); clear HB hb; have HB := n_; clear n_
    go_wp2_with fail
    refine (mayC false _ _ z4.out m3.out).mono ?_

    rintro e w_ ⟨rfl, hb⟩
    have n_ := Aside0.mk (below_step (by repeat (first | (with_reducible first | exact HB.out | apply below_alloc | apply pw_below_drewN | apply below_drew1) | exact HB.out)) hb); clear HB hb; have HB := n_; clear n_
    go_wp2_with fail
    refine (mayC false _ _ z5.out m4.out).mono ?_

    rintro e w_ ⟨rfl, hb⟩
    have n_ := Aside0.mk (below_step (by repeat (first | (with_reducible first | exact HB.out | apply below_alloc | apply pw_below_drewN | apply below_drew1) | exact HB.out)) hb); clear HB hb; have HB := n_; clear n_
    go_wp2_with fail
    refine (mayTagNo _ _ m5.out (by omega)).mono ?_

    rintro e w_ ⟨rfl, hb⟩
    have n_ := Aside0.mk (below_step (by repeat (first | (with_reducible first | exact HB.out | apply below_alloc | apply pw_below_drewN | apply below_drew1) | exact HB.out)) hb); clear HB hb; have HB := n_; clear n_
    go_wp2_with fail
    refine (mayTagYes _ _ m6.out z6.out).mono ?_

    rintro e w_ ⟨rfl, hb⟩
    have n_ := Aside0.mk (below_step (by repeat (first | (with_reducible first | exact HB.out | apply below_alloc | apply pw_below_drewN | apply below_drew1) | exact HB.out)) hb); clear HB hb; have HB := n_; clear n_
    go_wp2_with fail
    refine (mayTagNo _ _ m7.out z7.out).mono ?_

    rintro e w_ ⟨rfl, hb⟩
    have n_ := Aside0.mk (below_step (by repeat (first | (with_reducible first | exact HB.out | apply below_alloc | apply pw_below_drewN | apply below_drew1) | exact HB.out)) hb); clear HB hb; have HB := n_; clear n_
    by_cases h23 : 23 < a.size
    · have hd2 : decide ((23 : Int) < (a.size : Int)) = true := decide_eq_true (by omega)
      go_wp2
      go_ret
      exact ⟨rfl, (by repeat (first | (with_reducible first | exact HB.out | apply below_alloc | apply pw_below_drewN | apply below_drew1) | exact HB.out))⟩
    · have hd2 : decide ((23 : Int) < (a.size : Int)) = false := decide_eq_false (by omega)
      go_wp2_with fail
      refine (mayC true _ _ z8.out (m8.out (by omega))).mono ?_

      rintro e w_ ⟨rfl, hb⟩
      have n_ := Aside0.mk (below_step (by repeat (first | (with_reducible first | exact HB.out | apply below_alloc | apply pw_below_drewN | apply below_drew1) | exact HB.out)) hb); clear HB hb; have HB := n_; clear n_
      go_wp2
      go_ret
      exact ⟨rfl, (by repeat (first | (with_reducible first | exact HB.out | apply below_alloc | apply pw_below_drewN | apply below_drew1) | exact HB.out))⟩
end Go.Proofs.Ytkbnckpcllfikaa.Nam

/- The statement NameCuts: the walk of the law. -/
import Derived.Test.YtkbnckpcllfikaaM8
namespace Go.Proofs.Ytkbnckpcllfikaa.Nam
open Go.RowKit Go.Proofs.YtkbnckpcllfikaaW.PrintWords Go.Proofs.YtkbnckpcllfikaaW.PrintLast Go.Proofs.YtkbnckpcllfikaaW.PrintMore Go.Proofs.Ytkbnckpcllfikaa.Num Go.Proofs.Ytkbnckpcllfikaa.Prt
set_option linter.unusedVariables false
set_option linter.unusedSimpArgs false
theorem cuts_law (s1 : ByteArray) (at1 : Int) (w : World) (ws1 : s1.size ≤ 140737488351232) (wat : (Lit.int .i64 at1).wf = true) :
    Calls Try.prog 5 #[.string s1, .int .i64 at1] w fun e w' => e = .returned (.bool true) ∧ Below w.heap.size w w' := by
  have HB := Aside0.mk (Below.refl w.heap.size w)
  go_enter Try.func5, Try.ntmps5
  go_wp2_with fail
  refine (shown_calls _).mono ?_

  rintro e w_ ⟨rfl, hb⟩
  have n_ := Aside0.mk (below_step (by repeat (first | (with_reducible first | exact HB.out | apply below_alloc | apply pw_below_drewN | apply below_drew1) | exact HB.out)) hb); clear HB hb; have HB := n_; clear n_
  go_wp2_with fail
  refine (short_calls s1 _ (by omega)).mono ?_
  rintro e w_ ⟨rfl, rfl⟩
  obtain ⟨a, ht⟩ : ∃ t, t = sh s1 := ⟨_, rfl⟩
  have hz_a : a.size ≤ 60 := by rw [ht]; exact sh_size s1
  rw [← ht]
  clear ht
  go_wp2_with fail
  cases ha : mayL (bytesOf a) with
  | false =>
    refine (mayC false a _ (by omega) ha).mono ?_

    rintro e w_ ⟨rfl, hb⟩
    have n_ := Aside0.mk (below_step (by repeat (first | (with_reducible first | exact HB.out | apply below_alloc | apply pw_below_drewN | apply below_drew1) | exact HB.out)) hb); clear HB hb; have HB := n_; clear n_
    go_wp2
    go_ret
    exact ⟨rfl, (by repeat (first | (with_reducible first | exact HB.out | apply below_alloc | apply pw_below_drewN | apply below_drew1) | exact HB.out))⟩
  | true =>
    refine (mayC true a _ (by omega) ha).mono ?_

    rintro e w_ ⟨rfl, hb⟩
    have n_ := Aside0.mk (below_step (by repeat (first | (with_reducible first | exact HB.out | apply below_alloc | apply pw_below_drewN | apply below_drew1) | exact HB.out)) hb); clear HB hb; have HB := n_; clear n_
    have HA := Aside0.mk ha
    clear ha
    by_cases h0 : at1 ≤ 0
    · have hd : decide (at1 ≤ 0) = true := decide_eq_true h0
      go_wp2
      go_ret
      exact ⟨rfl, (by repeat (first | (with_reducible first | exact HB.out | apply below_alloc | apply pw_below_drewN | apply below_drew1) | exact HB.out))⟩
    · have hd : decide (at1 ≤ 0) = false := decide_eq_false h0
      by_cases h1 : (a.size : Int) ≤ at1
      · have hd1 : decide ((a.size : Int) ≤ at1) = true := decide_eq_true h1
        go_wp2
        go_ret
        exact ⟨rfl, (by repeat (first | (with_reducible first | exact HB.out | apply below_alloc | apply pw_below_drewN | apply below_drew1) | exact HB.out))⟩
      · obtain ⟨n, rfl⟩ := Int.eq_ofNat_of_zero_le (show 0 ≤ at1 by omega)
        have hd1 : decide ((a.size : Int) ≤ (n : Int)) = false := decide_eq_false h1
        have hn : n < a.size := by omega
        obtain ⟨_, h24, _, hla⟩ := may_parts HA.out
        rw [bytes_length] at h24
        obtain ⟨c, hc⟩ : ∃ c, c = a.extract 0 n := ⟨_, rfl⟩
        have hcs : c.size ≤ 60 := by rw [hc, ByteArray.size_extract]; omega
        have hcb : bytesOf c = (bytesOf a).take n := by rw [hc, bytes_extract, List.drop_zero, Nat.sub_zero]
        obtain ⟨f, hf⟩ : ∃ f, f = strOfNums (foldL (bytesOf c)) := ⟨_, rfl⟩
        obtain ⟨b, hbb⟩ : ∃ b, lettersOnly (bytesOf c) = b := ⟨_, rfl⟩
        have hcmp := str_fold hf
        rw [hbb] at hcmp
        have hmb : mayL (bytesOf c) = b := by rw [hcb, may_take HA.out (by omega) (by rw [bytes_length]; omega), ← hcb, hbb]
        have HF := Aside0.mk hf
        have HMB := Aside0.mk hmb
        have HC := Aside0.mk hc
        have m1 : a.size + 1 ≤ 24 → mayL (bytesOf (a ++ ⟨#[45]⟩)) = true := fun h => by
          rw [bytes_append]
          exact may_app HA.out (by show lettersOnly [45] = true; rw [lo1 (by decide), lettersOnly_nil]) (by rw [bytes_length]; exact h)
        have m2 : a.size + 1 ≤ 24 → mayL (bytesOf (a ++ ⟨#[57]⟩)) = true := fun h => by
          rw [bytes_append]
          exact may_app HA.out (by show lettersOnly [57] = true; rw [lo1 (by decide), lettersOnly_nil]) (by rw [bytes_length]; exact h)
        have M1 := Aside0.mk m1
        have M2 := Aside0.mk m2
        have z1 : (a ++ ⟨#[45]⟩ : ByteArray).size ≤ 1000000 := by rw [ByteArray.size_append]; show a.size + 1 ≤ _; omega
        have z2 : (a ++ ⟨#[57]⟩ : ByteArray).size ≤ 1000000 := by rw [ByteArray.size_append]; show a.size + 1 ≤ _; omega
        have hs1 : a.size + 1 ≤ 9223372036854775807 := by omega
        clear hf hmb hbb hcb m1 m2 hla
        go_wp2_with fail
        rw [← HC.out]
        clear hc
        refine (foldC f c _ (by omega) HF.out).mono ?_

        rintro e w_ ⟨rfl, hb⟩
        have n_ := Aside0.mk (below_step (by repeat (first | (with_reducible first | exact HB.out | apply below_alloc | apply pw_below_drewN | apply below_drew1) | exact HB.out)) hb); clear HB hb; have HB := n_; clear n_
        go_wp2_with fail
        refine (mayC b c _ (by omega) HMB.out).mono ?_

        rintro e w_ ⟨rfl, hb⟩
        have n_ := Aside0.mk (below_step (by repeat (first | (with_reducible first | exact HB.out | apply below_alloc | apply pw_below_drewN | apply below_drew1) | exact HB.out)) hb); clear HB hb; have HB := n_; clear n_
        by_cases h23 : 23 < a.size
        · have hd2 : decide ((23 : Int) < (a.size : Int)) = true := decide_eq_true (by omega)
          go_wp2
          go_ret
          exact ⟨rfl, (by repeat (first | (with_reducible first | exact HB.out | apply below_alloc | apply pw_below_drewN | apply below_drew1) | exact HB.out))⟩
        · have hd2 : decide ((23 : Int) < (a.size : Int)) = false := decide_eq_false (by omega)
          go_wp2_with fail
          refine (mayC true (a ++ (⟨#[45]⟩ : ByteArray)) _ z1 (M1.out (by omega))).mono ?_

          rintro e w_ ⟨rfl, hb⟩
          have n_ := Aside0.mk (below_step (by repeat (first | (with_reducible first | exact HB.out | apply below_alloc | apply pw_below_drewN | apply below_drew1) | exact HB.out)) hb); clear HB hb; have HB := n_; clear n_
          go_wp2_with fail
          refine (mayC true (a ++ (⟨#[57]⟩ : ByteArray)) _ z2 (M2.out (by omega))).mono ?_

          rintro e w_ ⟨rfl, hb⟩
          have n_ := Aside0.mk (below_step (by repeat (first | (with_reducible first | exact HB.out | apply below_alloc | apply pw_below_drewN | apply below_drew1) | exact HB.out)) hb); clear HB hb; have HB := n_; clear n_
          go_wp2
          go_ret
          exact ⟨rfl, (by repeat (first | (with_reducible first | exact HB.out | apply below_alloc | apply pw_below_drewN | apply below_drew1) | exact HB.out))⟩
end Go.Proofs.Ytkbnckpcllfikaa.Nam

/- The statement NameJoins: the walk of the law. -/
import Derived.Test.YtkbnckpcllfikaaM8
namespace Go.Proofs.Ytkbnckpcllfikaa.Nam
open Go.RowKit Go.Proofs.YtkbnckpcllfikaaW.PrintWords Go.Proofs.YtkbnckpcllfikaaW.PrintLast Go.Proofs.YtkbnckpcllfikaaW.PrintMore Go.Proofs.Ytkbnckpcllfikaa.Num Go.Proofs.Ytkbnckpcllfikaa.Prt
set_option linter.unusedVariables false
set_option linter.unusedSimpArgs false
theorem joins_law (s1 s2 : ByteArray) (w : World) (ws1 : s1.size ≤ 140737488351232) (ws2 : s2.size ≤ 140737488351232) :
    Calls Try.prog 4 #[.string s1, .string s2] w fun e w' => e = .returned (.bool true) ∧ Below w.heap.size w w' := by
  have HB := Aside0.mk (Below.refl w.heap.size w)
  go_enter Try.func4, Try.ntmps4
  go_wp2_with fail
  refine (shown_calls _).mono ?_

  rintro e w_ ⟨rfl, hb⟩
  have n_ := Aside0.mk (below_step (by repeat (first | (with_reducible first | exact HB.out | apply below_alloc | apply pw_below_drewN | apply below_drew1) | exact HB.out)) hb); clear HB hb; have HB := n_; clear n_
  go_wp2_with fail
  refine (short_calls s1 _ (by omega)).mono ?_
  rintro e w_ ⟨rfl, rfl⟩
  obtain ⟨a, ht⟩ : ∃ t, t = sh s1 := ⟨_, rfl⟩
  have hz_a : a.size ≤ 60 := by rw [ht]; exact sh_size s1
  rw [← ht]
  clear ht
  go_wp2_with fail
  refine (short_calls s2 _ (by omega)).mono ?_
  rintro e w_ ⟨rfl, rfl⟩
  obtain ⟨b, ht⟩ : ∃ t, t = sh s2 := ⟨_, rfl⟩
  have hz_b : b.size ≤ 60 := by rw [ht]; exact sh_size s2
  rw [← ht]
  clear ht
  go_wp2_with fail
  cases ha : mayL (bytesOf a) with
  | false =>
    refine (mayC false a _ (by omega) ha).mono ?_

    rintro e w_ ⟨rfl, hb⟩
    have n_ := Aside0.mk (below_step (by repeat (first | (with_reducible first | exact HB.out | apply below_alloc | apply pw_below_drewN | apply below_drew1) | exact HB.out)) hb); clear HB hb; have HB := n_; clear n_
    go_wp2
    go_ret
    exact ⟨rfl, (by repeat (first | (with_reducible first | exact HB.out | apply below_alloc | apply pw_below_drewN | apply below_drew1) | exact HB.out))⟩
  | true =>
    refine (mayC true a _ (by omega) ha).mono ?_

    rintro e w_ ⟨rfl, hb⟩
    have n_ := Aside0.mk (below_step (by repeat (first | (with_reducible first | exact HB.out | apply below_alloc | apply pw_below_drewN | apply below_drew1) | exact HB.out)) hb); clear HB hb; have HB := n_; clear n_
    have HA := Aside0.mk ha
    clear ha
    obtain ⟨_, _, _, hla⟩ := may_parts HA.out
    have HLA := Aside0.mk hla
    clear hla
    go_upto_region 6 with fail
    go_cut [6] (fun v6 wc => v6 = .bool true ∧ Aside0 (Below w.heap.size w wc))
    case first =>
      have hsz : a.size + b.size ≤ 9223372036854775807 := by omega
      go_wp2_with fail
      cases hb0 : mayL (bytesOf b) with
      | false =>
        refine (mayC false b _ (by omega) hb0).mono ?_

        rintro e w_ ⟨rfl, hb⟩
        have n_ := Aside0.mk (below_step (by repeat (first | (with_reducible first | exact HB.out | apply below_alloc | apply pw_below_drewN | apply below_drew1) | exact HB.out)) hb); clear HB hb; have HB := n_; clear n_
        clear hb0
        go_wp2_with fail
        go_meet
        case rel => exact ⟨rfl, ⟨(by repeat (first | (with_reducible first | exact HB.out | apply below_alloc | apply pw_below_drewN | apply below_drew1) | exact HB.out))⟩⟩
      | true =>
        refine (mayC true b _ (by omega) hb0).mono ?_

        rintro e w_ ⟨rfl, hb⟩
        have n_ := Aside0.mk (below_step (by repeat (first | (with_reducible first | exact HB.out | apply below_alloc | apply pw_below_drewN | apply below_drew1) | exact HB.out)) hb); clear HB hb; have HB := n_; clear n_
        obtain ⟨_, _, _, hlb⟩ := may_parts hb0
        clear hb0
        have HLB := Aside0.mk hlb
        clear hlb
        by_cases h24 : 24 < a.size + b.size
        · have hd : decide ((24 : Int) < (a.size : Int) + (b.size : Int)) = true := decide_eq_true (by omega)
          go_wp2_with fail
          go_meet
          case rel => exact ⟨rfl, ⟨(by repeat (first | (with_reducible first | exact HB.out | apply below_alloc | apply pw_below_drewN | apply below_drew1) | exact HB.out))⟩⟩
        · have hd : decide ((24 : Int) < (a.size : Int) + (b.size : Int)) = false := decide_eq_false (by omega)
          have hs3 : (a ++ b).size ≤ 1000000 := by rw [ByteArray.size_append]; omega
          have hab : mayL (bytesOf (a ++ b)) = true := by
            rw [bytes_append]
            exact may_app HA.out HLB.out (by rw [bytes_length, bytes_length]; omega)
          have HAB := Aside0.mk hab
          clear hab
          go_wp2_with fail
          refine (mayC true (a ++ b) _ hs3 HAB.out).mono ?_

          rintro e w_ ⟨rfl, hb⟩
          have n_ := Aside0.mk (below_step (by repeat (first | (with_reducible first | exact HB.out | apply below_alloc | apply pw_below_drewN | apply below_drew1) | exact HB.out)) hb); clear HB hb; have HB := n_; clear n_
          go_wp2_with fail
          go_meet
          case rel => exact ⟨rfl, ⟨(by repeat (first | (with_reducible first | exact HB.out | apply below_alloc | apply pw_below_drewN | apply below_drew1) | exact HB.out))⟩⟩
    case rest =>
    clear HB
    obtain ⟨rfl, HB⟩ := hcut
    obtain ⟨f, hf⟩ : ∃ f, f = strOfNums (foldL (bytesOf b)) := ⟨_, rfl⟩
    have hfs := fold_size hf
    have hcat := fold_cat HLA.out hf
    have HF := Aside0.mk hf
    have HC := Aside0.mk hcat
    have hs1 : a.size + b.size ≤ 9223372036854775807 := by omega
    have hs2 : a.size + f.size ≤ 9223372036854775807 := by omega
    have hs3 : (a ++ b).size ≤ 1000000 := by rw [ByteArray.size_append]; omega
    clear hf hcat
    go_wp2_with fail
    refine (foldC (a ++ f) (a ++ b) _ hs3 HC.out).mono ?_

    rintro e w_ ⟨rfl, hb⟩
    have n_ := Aside0.mk (below_step (by repeat (first | (with_reducible first | exact HB.out | apply below_alloc | apply pw_below_drewN | apply below_drew1) | exact HB.out)) hb); clear HB hb; have HB := n_; clear n_
    go_wp2_with fail
    refine (foldC f b _ (by omega) HF.out).mono ?_

    rintro e w_ ⟨rfl, hb⟩
    have n_ := Aside0.mk (below_step (by repeat (first | (with_reducible first | exact HB.out | apply below_alloc | apply pw_below_drewN | apply below_drew1) | exact HB.out)) hb); clear HB hb; have HB := n_; clear n_
    go_wp2
    go_ret
    exact ⟨rfl, (by repeat (first | (with_reducible first | exact HB.out | apply below_alloc | apply pw_below_drewN | apply below_drew1) | exact HB.out))⟩
end Go.Proofs.Ytkbnckpcllfikaa.Nam

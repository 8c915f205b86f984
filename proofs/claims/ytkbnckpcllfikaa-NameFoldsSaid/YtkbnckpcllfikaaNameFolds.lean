/- The statement NameFolds: the walk of the law. -/
import Derived.Test.YtkbnckpcllfikaaM10
namespace Go.Proofs.Ytkbnckpcllfikaa.Nam
open Go.RowKit Go.Proofs.YtkbnckpcllfikaaW.PrintWords Go.Proofs.YtkbnckpcllfikaaW.PrintLast Go.Proofs.YtkbnckpcllfikaaW.PrintMore Go.Proofs.Ytkbnckpcllfikaa.Num Go.Proofs.Ytkbnckpcllfikaa.Prt
set_option linter.unusedVariables false
set_option linter.unusedSimpArgs false
theorem shortC (t s : ByteArray) (w : World) (hs : s.size ≤ 9223372036854775807) (h : t = sh s) : Calls Try.prog 12 #[.string s] w fun e w' => e = .returned (.string t) ∧ w = w' := by
  subst h; exact short_calls s w hs
theorem noEmpty : ∀ k v : ByteArray, (⟨#[]⟩ : ByteArray) = k ++ (⟨#[58]⟩ : ByteArray) ++ v → mayL (bytesOf k) = true → mayL (bytesOf v) = false := by
  intro k v h _
  have e := congrArg ByteArray.size h
  rw [ByteArray.size_append, ByteArray.size_append] at e
  have e2 : (⟨#[58]⟩ : ByteArray).size = 1 := rfl
  have e3 : (⟨#[]⟩ : ByteArray).size = 0 := rfl
  omega
theorem folds_law (s1 s2 : ByteArray) (w : World) (ws1 : s1.size ≤ 140737488351232) (ws2 : s2.size ≤ 140737488351232) :
    Calls Try.prog 7 #[.string s1, .string s2] w fun e w' => e = .returned (.bool true) ∧ Below w.heap.size w w' := by
  have HB := Aside0.mk (Below.refl w.heap.size w)
  obtain ⟨a, ha⟩ : ∃ t, t = sh s1 := ⟨_, rfl⟩
  have hz_a : a.size ≤ 60 := by rw [ha]; exact sh_size s1
  have HSA := Aside0.mk ha
  obtain ⟨b, hb⟩ : ∃ t, t = sh s2 := ⟨_, rfl⟩
  have hz_b : b.size ≤ 60 := by rw [hb]; exact sh_size s2
  have HSB := Aside0.mk hb
  obtain ⟨f, hf⟩ : ∃ f, f = strOfNums (foldL (bytesOf a)) := ⟨_, rfl⟩
  have hfs := fold_size hf
  have HF := Aside0.mk hf
  have hff : f = strOfNums (foldL (bytesOf f)) := by rw [hf, bytesOf_strOfNums (fold_bytes _), fold_fold]
  have HFF := Aside0.mk hff
  have hcmp := str_fold hf
  have hle : decide ((f.size : Int) ≤ (a.size : Int)) = true := decide_eq_true (by omega)
  clear ha hb hf hff
  have htz : (a ++ (⟨#[58]⟩ : ByteArray) ++ b).size ≤ 1000000 := by
    rw [ByteArray.size_append, ByteArray.size_append]
    show a.size + 1 + b.size ≤ _
    omega
  go_enter Try.func7, Try.ntmps7
  go_wp2_with fail
  refine (shown_calls _).mono ?_

  rintro e w_ ⟨rfl, hb⟩
  have n_ := Aside0.mk (below_step (by repeat (first | (with_reducible first | exact HB.out | apply below_alloc | apply pw_below_drewN | apply below_drew1) | exact HB.out)) hb); clear HB hb; have HB := n_; clear n_
  go_wp2_with fail
  refine (shortC a s1 _ (by omega) HSA.out).mono ?_
  rintro e w_ ⟨rfl, rfl⟩
  cases hma : mayL (bytesOf a) with
  | false =>
    have HMA := Aside0.mk hma
    clear hma hcmp
    go_wp2_with fail
    refine (foldC f a _ (by omega) HF.out).mono ?_

    rintro e w_ ⟨rfl, hb⟩
    have n_ := Aside0.mk (below_step (by repeat (first | (with_reducible first | exact HB.out | apply below_alloc | apply pw_below_drewN | apply below_drew1) | exact HB.out)) hb); clear HB hb; have HB := n_; clear n_
    go_wp2_with fail
    refine (shortC b s2 _ (by omega) HSB.out).mono ?_
    rintro e w_ ⟨rfl, rfl⟩
    go_wp2_with fail
    refine (tagNo a b _ (by omega) (by omega) (.inl HMA.out)).mono ?_

    rintro e w_ ⟨rfl, hb⟩
    have n_ := Aside0.mk (below_step (by repeat (first | (with_reducible first | exact HB.out | apply below_alloc | apply pw_below_drewN | apply below_drew1) | exact HB.out)) hb); clear HB hb; have HB := n_; clear n_
    go_wp2_with fail
    refine (partsNo ⟨#[]⟩ _ noEmpty (by decide)).mono ?_

    rintro e w_ ⟨rfl, hb⟩
    have n_ := Aside0.mk (below_step (by repeat (first | (with_reducible first | exact HB.out | apply below_alloc | apply pw_below_drewN | apply below_drew1) | exact HB.out)) hb); clear HB hb; have HB := n_; clear n_
    go_wp2_with fail
    refine (mayC false a _ (by omega) HMA.out).mono ?_

    rintro e w_ ⟨rfl, hb⟩
    have n_ := Aside0.mk (below_step (by repeat (first | (with_reducible first | exact HB.out | apply below_alloc | apply pw_below_drewN | apply below_drew1) | exact HB.out)) hb); clear HB hb; have HB := n_; clear n_
    go_wp2_with fail
    refine (foldC f f _ (by omega) HFF.out).mono ?_

    rintro e w_ ⟨rfl, hb⟩
    have n_ := Aside0.mk (below_step (by repeat (first | (with_reducible first | exact HB.out | apply below_alloc | apply pw_below_drewN | apply below_drew1) | exact HB.out)) hb); clear HB hb; have HB := n_; clear n_
    go_wp2_with fail
    refine (mayC false a _ (by omega) HMA.out).mono ?_

    rintro e w_ ⟨rfl, hb⟩
    have n_ := Aside0.mk (below_step (by repeat (first | (with_reducible first | exact HB.out | apply below_alloc | apply pw_below_drewN | apply below_drew1) | exact HB.out)) hb); clear HB hb; have HB := n_; clear n_
    go_wp2
    go_ret
    exact ⟨rfl, (by repeat (first | (with_reducible first | exact HB.out | apply below_alloc | apply pw_below_drewN | apply below_drew1) | exact HB.out))⟩
  | true =>
    have HMA := Aside0.mk hma
    rw [(may_parts hma).2.2.2] at hcmp
    clear hma
    cases hmb : mayL (bytesOf b) with
    | false =>
      have HMB := Aside0.mk hmb
      clear hmb
      go_wp2_with fail
      refine (foldC f a _ (by omega) HF.out).mono ?_

      rintro e w_ ⟨rfl, hb⟩
      have n_ := Aside0.mk (below_step (by repeat (first | (with_reducible first | exact HB.out | apply below_alloc | apply pw_below_drewN | apply below_drew1) | exact HB.out)) hb); clear HB hb; have HB := n_; clear n_
      go_wp2_with fail
      refine (shortC b s2 _ (by omega) HSB.out).mono ?_
      rintro e w_ ⟨rfl, rfl⟩
      go_wp2_with fail
      refine (tagNo a b _ (by omega) (by omega) (.inr HMB.out)).mono ?_

      rintro e w_ ⟨rfl, hb⟩
      have n_ := Aside0.mk (below_step (by repeat (first | (with_reducible first | exact HB.out | apply below_alloc | apply pw_below_drewN | apply below_drew1) | exact HB.out)) hb); clear HB hb; have HB := n_; clear n_
      go_wp2_with fail
      refine (partsNo ⟨#[]⟩ _ noEmpty (by decide)).mono ?_

      rintro e w_ ⟨rfl, hb⟩
      have n_ := Aside0.mk (below_step (by repeat (first | (with_reducible first | exact HB.out | apply below_alloc | apply pw_below_drewN | apply below_drew1) | exact HB.out)) hb); clear HB hb; have HB := n_; clear n_
      go_wp2_with fail
      refine (mayC true a _ (by omega) HMA.out).mono ?_

      rintro e w_ ⟨rfl, hb⟩
      have n_ := Aside0.mk (below_step (by repeat (first | (with_reducible first | exact HB.out | apply below_alloc | apply pw_below_drewN | apply below_drew1) | exact HB.out)) hb); clear HB hb; have HB := n_; clear n_
      go_wp2_with fail
      refine (shortC b s2 _ (by omega) HSB.out).mono ?_
      rintro e w_ ⟨rfl, rfl⟩
      go_wp2_with fail
      refine (mayC false b _ (by omega) HMB.out).mono ?_

      rintro e w_ ⟨rfl, hb⟩
      have n_ := Aside0.mk (below_step (by repeat (first | (with_reducible first | exact HB.out | apply below_alloc | apply pw_below_drewN | apply below_drew1) | exact HB.out)) hb); clear HB hb; have HB := n_; clear n_
      go_wp2_with fail
      refine (foldC f f _ (by omega) HFF.out).mono ?_

      rintro e w_ ⟨rfl, hb⟩
      have n_ := Aside0.mk (below_step (by repeat (first | (with_reducible first | exact HB.out | apply below_alloc | apply pw_below_drewN | apply below_drew1) | exact HB.out)) hb); clear HB hb; have HB := n_; clear n_
      go_wp2_with fail
      refine (mayC true a _ (by omega) HMA.out).mono ?_

      rintro e w_ ⟨rfl, hb⟩
      have n_ := Aside0.mk (below_step (by repeat (first | (with_reducible first | exact HB.out | apply below_alloc | apply pw_below_drewN | apply below_drew1) | exact HB.out)) hb); clear HB hb; have HB := n_; clear n_
      go_wp2
      go_ret
      exact ⟨rfl, (by repeat (first | (with_reducible first | exact HB.out | apply below_alloc | apply pw_below_drewN | apply below_drew1) | exact HB.out))⟩
    | true =>
      have HMB := Aside0.mk hmb
      clear hmb
      go_wp2_with fail
      refine (foldC f a _ (by omega) HF.out).mono ?_

      rintro e w_ ⟨rfl, hb⟩
      have n_ := Aside0.mk (below_step (by repeat (first | (with_reducible first | exact HB.out | apply below_alloc | apply pw_below_drewN | apply below_drew1) | exact HB.out)) hb); clear HB hb; have HB := n_; clear n_
      go_wp2_with fail
      refine (shortC b s2 _ (by omega) HSB.out).mono ?_
      rintro e w_ ⟨rfl, rfl⟩
      go_wp2_with fail
      refine (tagYes a b _ (by omega) (by omega) HMA.out HMB.out).mono ?_

      rintro e w_ ⟨rfl, hb⟩
      have n_ := Aside0.mk (below_step (by repeat (first | (with_reducible first | exact HB.out | apply below_alloc | apply pw_below_drewN | apply below_drew1) | exact HB.out)) hb); clear HB hb; have HB := n_; clear n_
      go_wp2_with fail
      refine (partsYes a b _ _ rfl HMA.out HMB.out htz).mono ?_

      rintro e w_ ⟨rfl, hb⟩
      have n_ := Aside0.mk (below_step (by repeat (first | (with_reducible first | exact HB.out | apply below_alloc | apply pw_below_drewN | apply below_drew1) | exact HB.out)) hb); clear HB hb; have HB := n_; clear n_
      go_wp2_with fail
      refine (mayC true a _ (by omega) HMA.out).mono ?_

      rintro e w_ ⟨rfl, hb⟩
      have n_ := Aside0.mk (below_step (by repeat (first | (with_reducible first | exact HB.out | apply below_alloc | apply pw_below_drewN | apply below_drew1) | exact HB.out)) hb); clear HB hb; have HB := n_; clear n_
      go_wp2_with fail
      refine (shortC b s2 _ (by omega) HSB.out).mono ?_
      rintro e w_ ⟨rfl, rfl⟩
      go_wp2_with fail
      refine (mayC true b _ (by omega) HMB.out).mono ?_

      rintro e w_ ⟨rfl, hb⟩
      have n_ := Aside0.mk (below_step (by repeat (first | (with_reducible first | exact HB.out | apply below_alloc | apply pw_below_drewN | apply below_drew1) | exact HB.out)) hb); clear HB hb; have HB := n_; clear n_
      go_wp2_with fail
      refine (foldC f f _ (by omega) HFF.out).mono ?_

      rintro e w_ ⟨rfl, hb⟩
      have n_ := Aside0.mk (below_step (by repeat (first | (with_reducible first | exact HB.out | apply below_alloc | apply pw_below_drewN | apply below_drew1) | exact HB.out)) hb); clear HB hb; have HB := n_; clear n_
      go_wp2_with fail
      refine (mayC true a _ (by omega) HMA.out).mono ?_

      rintro e w_ ⟨rfl, hb⟩
      have n_ := Aside0.mk (below_step (by repeat (first | (with_reducible first | exact HB.out | apply below_alloc | apply pw_below_drewN | apply below_drew1) | exact HB.out)) hb); clear HB hb; have HB := n_; clear n_
      go_wp2_with fail
      refine (shortC b s2 _ (by omega) HSB.out).mono ?_
      rintro e w_ ⟨rfl, rfl⟩
      go_wp2
      go_ret
      exact ⟨rfl, (by repeat (first | (with_reducible first | exact HB.out | apply below_alloc | apply pw_below_drewN | apply below_drew1) | exact HB.out))⟩
end Go.Proofs.Ytkbnckpcllfikaa.Nam

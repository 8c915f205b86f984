/- Tags: Parts, MayTag, and the reference's. -/
import Derived.Test.YtkbnckpcllfikaaM9
namespace Go.Proofs.Ytkbnckpcllfikaa.Nam
open Go.RowKit Go.Proofs.YtkbnckpcllfikaaW.PrintWords Go.Proofs.YtkbnckpcllfikaaW.PrintLast Go.Proofs.YtkbnckpcllfikaaW.PrintMore Go.Proofs.Ytkbnckpcllfikaa.Num Go.Proofs.Ytkbnckpcllfikaa.Prt
set_option linter.unusedVariables false
set_option linter.unusedSimpArgs false
theorem may_empty : mayL (bytesOf ⟨#[]⟩) = false := rfl
theorem partsYes (k v s : ByteArray) (w : World) (hs : s = k ++ (⟨#[58]⟩ : ByteArray) ++ v) (hk : mayL (bytesOf k) = true) (hv : mayL (bytesOf v) = true) (hz : s.size ≤ 1000000) :
    Calls Try.prog 18 #[.string s] w fun e w' => e = .returned (.tuple #[.string k, .string v, .bool true]) ∧ Below w.heap.size w w' := by
  have HB := Aside0.mk (Below.refl w.heap.size w)
  have HS := Aside0.mk hs
  have HK := Aside0.mk hk
  have HV := Aside0.mk hv
  have hsz : s.size = k.size + 1 + v.size := by rw [hs, ByteArray.size_append, ByteArray.size_append]; rfl
  clear hs hk hv
  have hk1 : k.size ≤ 1000000 := by omega
  have hv1 : v.size ≤ 1000000 := by omega
  have HZ : Aside0 (k.size + 1 ≤ s.size) := ⟨by omega⟩
  clear hsz
  go_enter Try.func18, Try.ntmps18
  go_wp2_with fail
  refine (cut_yes k v s _ HS.out (may_no58 HK.out) hz HZ.out).mono ?_

  rintro e w_ ⟨rfl, hb⟩
  have n_ := Aside0.mk (below_step (by repeat (first | (with_reducible first | exact HB.out | apply below_alloc | apply pw_below_drewN | apply below_drew1) | exact HB.out)) hb); clear HB hb; have HB := n_; clear n_
  go_wp2_with fail
  refine (mayC true k _ hk1 HK.out).mono ?_

  rintro e w_ ⟨rfl, hb⟩
  have n_ := Aside0.mk (below_step (by repeat (first | (with_reducible first | exact HB.out | apply below_alloc | apply pw_below_drewN | apply below_drew1) | exact HB.out)) hb); clear HB hb; have HB := n_; clear n_
  go_wp2_with fail
  refine (mayC true v _ hv1 HV.out).mono ?_

  rintro e w_ ⟨rfl, hb⟩
  have n_ := Aside0.mk (below_step (by repeat (first | (with_reducible first | exact HB.out | apply below_alloc | apply pw_below_drewN | apply below_drew1) | exact HB.out)) hb); clear HB hb; have HB := n_; clear n_
  go_wp2
  go_ret3
  exact ⟨rfl, (by repeat (first | (with_reducible first | exact HB.out | apply below_alloc | apply pw_below_drewN | apply below_drew1) | exact HB.out))⟩
theorem partsNo (s : ByteArray) (w : World) (h : ∀ k v : ByteArray, s = k ++ (⟨#[58]⟩ : ByteArray) ++ v → mayL (bytesOf k) = true → mayL (bytesOf v) = false) (hz : s.size ≤ 1000000) :
    Calls Try.prog 18 #[.string s] w fun e w' => e = .returned (.tuple #[.string ⟨#[]⟩, .string ⟨#[]⟩, .bool false]) ∧ Below w.heap.size w w' := by
  have HB := Aside0.mk (Below.refl w.heap.size w)
  rcases split58 s with hn | ⟨k, v, hs, hk, hsz⟩
  · have HN := Aside0.mk hn
    clear h hn
    go_enter Try.func18, Try.ntmps18
    go_wp2_with fail
    refine (cut_no s _ HN.out).mono ?_

    rintro e w_ ⟨rfl, hb⟩
    have n_ := Aside0.mk (below_step (by repeat (first | (with_reducible first | exact HB.out | apply below_alloc | apply pw_below_drewN | apply below_drew1) | exact HB.out)) hb); clear HB hb; have HB := n_; clear n_
    go_wp2_with fail
    cases hm : mayL (bytesOf s) with
    | false =>
      refine (mayC false s _ hz hm).mono ?_

      rintro e w_ ⟨rfl, hb⟩
      have n_ := Aside0.mk (below_step (by repeat (first | (with_reducible first | exact HB.out | apply below_alloc | apply pw_below_drewN | apply below_drew1) | exact HB.out)) hb); clear HB hb; have HB := n_; clear n_
      go_wp2
      go_ret3
      exact ⟨rfl, (by repeat (first | (with_reducible first | exact HB.out | apply below_alloc | apply pw_below_drewN | apply below_drew1) | exact HB.out))⟩
    | true =>
      refine (mayC true s _ hz hm).mono ?_

      rintro e w_ ⟨rfl, hb⟩
      have n_ := Aside0.mk (below_step (by repeat (first | (with_reducible first | exact HB.out | apply below_alloc | apply pw_below_drewN | apply below_drew1) | exact HB.out)) hb); clear HB hb; have HB := n_; clear n_
      go_wp2_with fail
      refine (mayC false _ _ (by decide) may_empty).mono ?_

      rintro e w_ ⟨rfl, hb⟩
      have n_ := Aside0.mk (below_step (by repeat (first | (with_reducible first | exact HB.out | apply below_alloc | apply pw_below_drewN | apply below_drew1) | exact HB.out)) hb); clear HB hb; have HB := n_; clear n_
      go_wp2
      go_ret3
      exact ⟨rfl, (by repeat (first | (with_reducible first | exact HB.out | apply below_alloc | apply pw_below_drewN | apply below_drew1) | exact HB.out))⟩
  · have HH := Aside0.mk (h k v hs)
    have HS := Aside0.mk hs
    have HK := Aside0.mk hk
    clear h hs hk
    have hk1 : k.size ≤ 1000000 := by omega
    have hv1 : v.size ≤ 1000000 := by omega
    have HZ : Aside0 (k.size + 1 ≤ s.size) := ⟨by omega⟩
    clear hsz
    go_enter Try.func18, Try.ntmps18
    go_wp2_with fail
    refine (cut_yes k v s _ HS.out HK.out hz HZ.out).mono ?_

    rintro e w_ ⟨rfl, hb⟩
    have n_ := Aside0.mk (below_step (by repeat (first | (with_reducible first | exact HB.out | apply below_alloc | apply pw_below_drewN | apply below_drew1) | exact HB.out)) hb); clear HB hb; have HB := n_; clear n_
    go_wp2_with fail
    cases hm : mayL (bytesOf k) with
    | false =>
      refine (mayC false k _ hk1 hm).mono ?_

      rintro e w_ ⟨rfl, hb⟩
      have n_ := Aside0.mk (below_step (by repeat (first | (with_reducible first | exact HB.out | apply below_alloc | apply pw_below_drewN | apply below_drew1) | exact HB.out)) hb); clear HB hb; have HB := n_; clear n_
      go_wp2
      go_ret3
      exact ⟨rfl, (by repeat (first | (with_reducible first | exact HB.out | apply below_alloc | apply pw_below_drewN | apply below_drew1) | exact HB.out))⟩
    | true =>
      refine (mayC true k _ hk1 hm).mono ?_

      rintro e w_ ⟨rfl, hb⟩
      have n_ := Aside0.mk (below_step (by repeat (first | (with_reducible first | exact HB.out | apply below_alloc | apply pw_below_drewN | apply below_drew1) | exact HB.out)) hb); clear HB hb; have HB := n_; clear n_
      go_wp2_with fail
      refine (mayC false v _ hv1 (HH.out hm)).mono ?_

      rintro e w_ ⟨rfl, hb⟩
      have n_ := Aside0.mk (below_step (by repeat (first | (with_reducible first | exact HB.out | apply below_alloc | apply pw_below_drewN | apply below_drew1) | exact HB.out)) hb); clear HB hb; have HB := n_; clear n_
      go_wp2
      go_ret3
      exact ⟨rfl, (by repeat (first | (with_reducible first | exact HB.out | apply below_alloc | apply pw_below_drewN | apply below_drew1) | exact HB.out))⟩
/-- Whether a text is a tag. -/
def IsTag (s : ByteArray) : Prop := ∃ k v : ByteArray, s = k ++ (⟨#[58]⟩ : ByteArray) ++ v ∧ mayL (bytesOf k) = true ∧ mayL (bytesOf v) = true
theorem mayTagYes (s : ByteArray) (w : World) (h : IsTag s) (hz : s.size ≤ 1000000) :
    Calls Try.prog 21 #[.string s] w fun e w' => e = .returned (.bool true) ∧ Below w.heap.size w w' := by
  obtain ⟨k, v, hs, hk, hv⟩ := h
  have HB := Aside0.mk (Below.refl w.heap.size w)
  have HS := Aside0.mk hs
  clear hs
  go_enter Try.func21, Try.ntmps21
  go_wp2_with fail
  refine (partsYes k v s _ HS.out hk hv hz).mono ?_

  rintro e w_ ⟨rfl, hb⟩
  have n_ := Aside0.mk (below_step (by repeat (first | (with_reducible first | exact HB.out | apply below_alloc | apply pw_below_drewN | apply below_drew1) | exact HB.out)) hb); clear HB hb; have HB := n_; clear n_
  go_wp2
  go_ret
  exact ⟨rfl, (by repeat (first | (with_reducible first | exact HB.out | apply below_alloc | apply pw_below_drewN | apply below_drew1) | exact HB.out))⟩
theorem noTag {s : ByteArray} (h : ¬ IsTag s) : ∀ k v : ByteArray, s = k ++ (⟨#[58]⟩ : ByteArray) ++ v → mayL (bytesOf k) = true → mayL (bytesOf v) = false := by
  intro k v hs hk
  cases hv : mayL (bytesOf v) with
  | false => rfl
  | true => exact absurd ⟨k, v, hs, hk, hv⟩ h
theorem mayTagNo (s : ByteArray) (w : World) (h : ¬ IsTag s) (hz : s.size ≤ 1000000) :
    Calls Try.prog 21 #[.string s] w fun e w' => e = .returned (.bool false) ∧ Below w.heap.size w w' := by
  have HB := Aside0.mk (Below.refl w.heap.size w)
  have HN := Aside0.mk (noTag h)
  clear h
  go_enter Try.func21, Try.ntmps21
  go_wp2_with fail
  refine (partsNo s _ HN.out hz).mono ?_

  rintro e w_ ⟨rfl, hb⟩
  have n_ := Aside0.mk (below_step (by repeat (first | (with_reducible first | exact HB.out | apply below_alloc | apply pw_below_drewN | apply below_drew1) | exact HB.out)) hb); clear HB hb; have HB := n_; clear n_
  go_wp2
  go_ret
  exact ⟨rfl, (by repeat (first | (with_reducible first | exact HB.out | apply below_alloc | apply pw_below_drewN | apply below_drew1) | exact HB.out))⟩
end Go.Proofs.Ytkbnckpcllfikaa.Nam

/- The statement NameTags: the walk of the law. -/
import Derived.Test.YtkbnckpcllfikaaM12
namespace Go.Proofs.Ytkbnckpcllfikaa.Nam
open Go.RowKit Go.Proofs.YtkbnckpcllfikaaW.PrintWords Go.Proofs.YtkbnckpcllfikaaW.PrintLast Go.Proofs.YtkbnckpcllfikaaW.PrintMore Go.Proofs.Ytkbnckpcllfikaa.Num Go.Proofs.Ytkbnckpcllfikaa.Prt
set_option linter.unusedVariables false
set_option linter.unusedSimpArgs false
theorem shortT (t s : ByteArray) (w : World) (hs : s.size ≤ 9223372036854775807) (h : t = sh s) : Calls Try.prog 12 #[.string s] w fun e w' => e = .returned (.string t) ∧ w = w' := by
  subst h; exact short_calls s w hs
/-- Both Tags of two texts answer alike. -/
theorem tagsAlike (a b : ByteArray) (ha : a.size ≤ 100000) (hb : b.size ≤ 100000) : ∃ t : ByteArray, t.size ≤ 1000000 ∧ (∀ w : World, Calls Try.prog 17 #[.string a, .string b] w fun e w' => e = .returned (.string t) ∧ Below w.heap.size w w') ∧ (∀ w : World, Calls Try.prog 20 #[.string a, .string b] w fun e w' => e = .returned (.string t) ∧ Below w.heap.size w w') := by
  by_cases h : mayL (bytesOf a) = true ∧ mayL (bytesOf b) = true
  · refine ⟨_, ?_, fun w => tagYes a b w ha hb h.1 h.2, fun w => refTagYes a b w ha hb h.1 h.2⟩
    rw [ByteArray.size_append, ByteArray.size_append]
    show a.size + 1 + b.size ≤ _
    omega
  · have h2 : mayL (bytesOf a) = false ∨ mayL (bytesOf b) = false := by
      cases h1 : mayL (bytesOf a) with
      | false => exact .inl rfl
      | true =>
        cases h2 : mayL (bytesOf b) with
        | false => exact .inr rfl
        | true => exact absurd ⟨h1, h2⟩ h
    exact ⟨_, by decide, fun w => tagNo a b w ha hb h2, fun w => refTagNo a b w ha hb h2⟩
/-- Both Parts of a text, and MayTag, answer alike. -/
theorem partsAlike (s : ByteArray) (hz : s.size ≤ 1000000) : ∃ (k v : ByteArray) (b : Bool), (∀ w : World, Calls Try.prog 18 #[.string s] w fun e w' => e = .returned (.tuple #[.string k, .string v, .bool b]) ∧ Below w.heap.size w w') ∧ (∀ w : World, Calls Try.prog 19 #[.string s] w fun e w' => e = .returned (.tuple #[.string k, .string v, .bool b]) ∧ Below w.heap.size w w') ∧ (∀ w : World, Calls Try.prog 21 #[.string s] w fun e w' => e = .returned (.bool b) ∧ Below w.heap.size w w') := by
  by_cases h : IsTag s
  · obtain ⟨k, v, hs, hk, hv⟩ := h
    exact ⟨k, v, true, fun w => partsYes k v s w hs hk hv hz, fun w => refPartsYes k v s w hs hk hv hz, fun w => mayTagYes s w ⟨k, v, hs, hk, hv⟩ hz⟩
  · exact ⟨_, _, false, fun w => partsNo s w (noTag h) hz, fun w => refPartsNo s w (noTag h) hz, fun w => mayTagNo s w h hz⟩
theorem tags_law (s1 s2 s3 : ByteArray) (w : World) (ws1 : s1.size ≤ 140737488351232) (ws2 : s2.size ≤ 140737488351232) (ws3 : s3.size ≤ 140737488351232) :
    Calls Try.prog 8 #[.string s1, .string s2, .string s3] w fun e w' => e = .returned (.bool true) ∧ Below w.heap.size w w' := by
  have HB := Aside0.mk (Below.refl w.heap.size w)
  obtain ⟨a, ha⟩ : ∃ t, t = sh s1 := ⟨_, rfl⟩
  have hz_a : a.size ≤ 60 := by rw [ha]; exact sh_size s1
  have HSA := Aside0.mk ha
  obtain ⟨b, hb⟩ : ∃ t, t = sh s2 := ⟨_, rfl⟩
  have hz_b : b.size ≤ 60 := by rw [hb]; exact sh_size s2
  have HSB := Aside0.mk hb
  obtain ⟨c, hc⟩ : ∃ t, t = sh s3 := ⟨_, rfl⟩
  have hz_c : c.size ≤ 60 := by rw [hc]; exact sh_size s3
  have HSC := Aside0.mk hc
  clear ha hb hc
  obtain ⟨t, htz, ht1, ht2⟩ := tagsAlike a b (by omega) (by omega)
  obtain ⟨k, v, ok, hp1, hp2, hp3⟩ := partsAlike c (by omega)
  go_enter Try.func8, Try.ntmps8
  go_wp2_with fail
  refine (shown_calls _).mono ?_

  rintro e w_ ⟨rfl, hb⟩
  have n_ := Aside0.mk (below_step (by repeat (first | (with_reducible first | exact HB.out | apply below_alloc | apply pw_below_drewN | apply below_drew1) | exact HB.out)) hb); clear HB hb; have HB := n_; clear n_
  go_wp2_with fail
  refine (shortT c s3 _ (by omega) HSC.out).mono ?_
  rintro e w_ ⟨rfl, rfl⟩
  go_wp2_with fail
  refine (hp1 _).mono ?_

  rintro e w_ ⟨rfl, hb⟩
  have n_ := Aside0.mk (below_step (by repeat (first | (with_reducible first | exact HB.out | apply below_alloc | apply pw_below_drewN | apply below_drew1) | exact HB.out)) hb); clear HB hb; have HB := n_; clear n_
  go_wp2_with fail
  refine (hp2 _).mono ?_

  rintro e w_ ⟨rfl, hb⟩
  have n_ := Aside0.mk (below_step (by repeat (first | (with_reducible first | exact HB.out | apply below_alloc | apply pw_below_drewN | apply below_drew1) | exact HB.out)) hb); clear HB hb; have HB := n_; clear n_
  go_wp2_with fail
  refine (shortT a s1 _ (by omega) HSA.out).mono ?_
  rintro e w_ ⟨rfl, rfl⟩
  go_wp2_with fail
  refine (shortT b s2 _ (by omega) HSB.out).mono ?_
  rintro e w_ ⟨rfl, rfl⟩
  go_wp2_with fail
  refine (ht1 _).mono ?_

  rintro e w_ ⟨rfl, hb⟩
  have n_ := Aside0.mk (below_step (by repeat (first | (with_reducible first | exact HB.out | apply below_alloc | apply pw_below_drewN | apply below_drew1) | exact HB.out)) hb); clear HB hb; have HB := n_; clear n_
  go_wp2_with fail
  refine (shortT a s1 _ (by omega) HSA.out).mono ?_
  rintro e w_ ⟨rfl, rfl⟩
  go_wp2_with fail
  refine (shortT b s2 _ (by omega) HSB.out).mono ?_
  rintro e w_ ⟨rfl, rfl⟩
  go_wp2_with fail
  refine (ht2 _).mono ?_

  rintro e w_ ⟨rfl, hb⟩
  have n_ := Aside0.mk (below_step (by repeat (first | (with_reducible first | exact HB.out | apply below_alloc | apply pw_below_drewN | apply below_drew1) | exact HB.out)) hb); clear HB hb; have HB := n_; clear n_
  go_wp2_with fail
  refine (hp3 _).mono ?_

  rintro e w_ ⟨rfl, hb⟩
  have n_ := Aside0.mk (below_step (by repeat (first | (with_reducible first | exact HB.out | apply below_alloc | apply pw_below_drewN | apply below_drew1) | exact HB.out)) hb); clear HB hb; have HB := n_; clear n_
  go_wp2
  go_ret
  exact ⟨rfl, (by repeat (first | (with_reducible first | exact HB.out | apply below_alloc | apply pw_below_drewN | apply below_drew1) | exact HB.out))⟩
end Go.Proofs.Ytkbnckpcllfikaa.Nam

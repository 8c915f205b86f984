/- Tags: the plain laws. -/
import Derived.Test.YtkbnckpcllfikaaM10
namespace Go.Proofs.Ytkbnckpcllfikaa.Nam
open Go.RowKit Go.Proofs.YtkbnckpcllfikaaW.PrintWords Go.Proofs.YtkbnckpcllfikaaW.PrintLast Go.Proofs.YtkbnckpcllfikaaW.PrintMore Go.Proofs.Ytkbnckpcllfikaa.Num Go.Proofs.Ytkbnckpcllfikaa.Prt
set_option linter.unusedVariables false
set_option linter.unusedSimpArgs false
theorem uniq58 : ∀ (a k b v : List Int), (58 : Int) ∉ a → (58 : Int) ∉ k → a ++ 58 :: b = k ++ 58 :: v → a = k ∧ b = v := by
  intro a
  induction a with
  | nil =>
    intro k b v _ hk h
    cases k with
    | nil => simp at h; exact ⟨rfl, h⟩
    | cons c r => simp at h; exact absurd (by rw [← h.1]; simp) hk
  | cons c r ih =>
    intro k b v ha hk h
    cases k with
    | nil => simp at h; exact absurd (by rw [h.1]; simp) ha
    | cons d t =>
      simp only [List.cons_append, List.cons.injEq] at h
      rw [List.mem_cons, not_or] at ha hk
      obtain ⟨h1, h2⟩ := ih t b v ha.2 hk.2 h.2
      exact ⟨by rw [h.1, h1], h2⟩
theorem bytes_cat (k v : ByteArray) : bytesOf (k ++ (⟨#[58]⟩ : ByteArray) ++ v) = bytesOf k ++ 58 :: bytesOf v := by
  rw [bytes_append, bytes_append, List.append_assoc]; rfl
theorem tag_inj {a b k v : ByteArray} (ha : mayL (bytesOf a) = true) (hk : mayL (bytesOf k) = true) (h : a ++ (⟨#[58]⟩ : ByteArray) ++ b = k ++ (⟨#[58]⟩ : ByteArray) ++ v) : a = k ∧ b = v := by
  have e := congrArg bytesOf h
  rw [bytes_cat, bytes_cat] at e
  obtain ⟨h1, h2⟩ := uniq58 _ _ _ _ (may_no58 ha) (may_no58 hk) e
  exact ⟨bytesOf_inj h1, bytesOf_inj h2⟩
theorem name_noTag {s : ByteArray} (h : mayL (bytesOf s) = true) : ¬ IsTag s := by
  rintro ⟨k, v, hs, _, _⟩
  refine may_no58 h ?_
  rw [hs, bytes_cat]; simp
theorem tag_noName {s : ByteArray} (h : IsTag s) : mayL (bytesOf s) = false := by
  cases hm : mayL (bytesOf s) with
  | false => rfl
  | true => exact absurd h (name_noTag hm)
theorem badTag {a b : ByteArray} (ha : mayL (bytesOf a) = true) (hb : mayL (bytesOf b) = false) : ¬ IsTag (a ++ (⟨#[58]⟩ : ByteArray) ++ b) := by
  rintro ⟨k, v, hs, hk, hv⟩
  obtain ⟨_, h2⟩ := tag_inj ha hk hs
  rw [h2, hv] at hb; cases hb
end Go.Proofs.Ytkbnckpcllfikaa.Nam

/- Rows of numbers and of texts, one behind the other. -/
import Derived.Test.YtnkaighdajickaaN5
namespace Go.Proofs.Ytnkaighdajickaa.Num
open Go.RowKit Go.Proofs.YtnkaighdajickaaW.PrintWords Go.Proofs.YtnkaighdajickaaW.PrintLast Go.Proofs.YtnkaighdajickaaW.PrintMore
set_option linter.unusedVariables false
set_option linter.unusedSimpArgs false

def encs : List Int → List Int
  | [] => []
  | x :: r => enc x ++ encs r
theorem encs_append (a b : List Int) : encs (a ++ b) = encs a ++ encs b := by
  induction a with
  | nil => rfl
  | cons x r ih => simp [encs, ih]
theorem encs_snoc (l : List Int) (i : Nat) (h : i < l.length) : encs (l.take (i + 1)) = encs (l.take i) ++ enc (l.getD i 0) := by
  rw [take_snoc l i h, encs_append]; simp [encs]
theorem drop_getD {α : Type} (l : List α) (i : Nat) (d : α) (h : i < l.length) : l.drop i = l.getD i d :: l.drop (i + 1) := by
  rw [List.drop_eq_getElem_cons h, List.getD_eq_getElem?_getD, List.getElem?_eq_getElem h]; rfl
theorem encs_drop (l : List Int) (i m : Nat) (h : i < m) (hm : m ≤ l.length) : encs ((l.take m).drop i) = enc (l.getD i 0) ++ encs ((l.take m).drop (i + 1)) := by
  rw [drop_getD (l.take m) i 0 (by rw [List.length_take]; omega)]
  show enc _ ++ _ = _
  congr 2
  rw [List.getD_eq_getElem?_getD, List.getElem?_take, if_pos h, List.getD_eq_getElem?_getD]
theorem encs_len {l : List Int} (h : ∀ x ∈ l, i64 x) : (encs l).length ≤ 10 * l.length := by
  induction l with
  | nil => exact Nat.le_refl _
  | cons x r ih =>
    have h1 := enc_len (h x (by simp))
    have h2 := ih (fun y hy => h y (by simp [hy]))
    simp only [encs, List.length_append, List.length_cons]; omega
theorem encs_bytes (l : List Int) : isBytes (encs l) := by
  induction l with
  | nil => intro c hc; simp [encs] at hc
  | cons x r ih => exact isBytes_append.2 ⟨enc_bytes x, ih⟩
theorem num_enc {x : Int} (h : i64 x) (r : List Int) (bad : Bool) : numOf (enc x ++ r) = x ∧ aft (enc x ++ r) = r ∧ badOf (enc x ++ r) bad = bad := by
  unfold numOf aft badOf
  rw [dec_enc h]
  exact ⟨rfl, rfl, by simp⟩
theorem getD_mem {l : List Int} {i : Nat} {Q : Int → Prop} (h : ∀ x ∈ l, Q x) (hi : i < l.length) : Q (l.getD i 0) := by
  rw [List.getD_eq_getElem?_getD, List.getElem?_eq_getElem hi]; exact h _ (List.getElem_mem hi)
/-- The next number is taken. -/
theorem numNext (x : Int) (r : List Int) (P : Nat → Prop) (w : World) (g : Nat) (l : List Int) (bad : Bool) (hI : Rd 47 P w g l bad) (hl : l = enc x ++ r) (hx : i64 x) (hr : isBytes r) :
    Calls Try.prog 17 #[.pointer (some ⟨g, 0, none⟩)] w fun e w' => e = .returned (.int .i64 x) ∧ Rd 47 P w' g r bad ∧ Below g w w' ∧ KeepBut w w' g none := by
  obtain ⟨h1, h2, h3⟩ := num_enc hx r bad
  subst hl
  have h := num_calls' x P w g _ bad hI (isBytes_append.2 ⟨enc_bytes x, hr⟩) h1
  rwa [h2, h3] at h
theorem leftW (P : Nat → Prop) (w : World) (g : Nat) (l : List Int) (bad : Bool) (hI : Rd 47 P w g l bad) :
    Calls Try.prog 18 #[.pointer (some ⟨g, 0, none⟩)] w fun e w' => e = .returned (.int .i64 (l.length : Int)) ∧ Rd 47 P w' g l bad ∧ Below g w w' ∧ KeepBut w w' g none := by
  refine (left_calls P w g l bad hI).mono ?_
  rintro e w1 ⟨rfl, rfl⟩
  exact ⟨rfl, hI, Below.refl _ _, KeepBut.refl _ _ _⟩
theorem badW (P : Nat → Prop) (w : World) (g : Nat) (l : List Int) (bad : Bool) (hI : Rd 47 P w g l bad) :
    Calls Try.prog 19 #[.pointer (some ⟨g, 0, none⟩)] w fun e w' => e = .returned (.bool bad) ∧ Rd 47 P w' g l bad ∧ Below g w w' ∧ KeepBut w w' g none := by
  refine (bad_calls P w g l bad hI).mono ?_
  rintro e w1 ⟨rfl, rfl⟩
  exact ⟨rfl, hI, Below.refl _ _, KeepBut.refl _ _ _⟩
end Go.Proofs.Ytnkaighdajickaa.Num

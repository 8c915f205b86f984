/- Rows of texts, one behind the other. -/
import Derived.Test.YtnkaighdajickaaN7
namespace Go.Proofs.Ytnkaighdajickaa.Num
open Go.RowKit Go.Proofs.YtnkaighdajickaaW.PrintWords Go.Proofs.YtnkaighdajickaaW.PrintLast Go.Proofs.YtnkaighdajickaaW.PrintMore
set_option linter.unusedVariables false
set_option linter.unusedSimpArgs false

def sh (s : ByteArray) : ByteArray := s.extract 0 (min s.size 100)
theorem sh_size (s : ByteArray) : (sh s).size ≤ 100 := by unfold sh; rw [ByteArray.size_extract]; omega
def encTs : List ByteArray → List Int
  | [] => []
  | s :: r => encT (bytesOf s) ++ encTs r
theorem encTs_append (a b : List ByteArray) : encTs (a ++ b) = encTs a ++ encTs b := by
  induction a with
  | nil => rfl
  | cons x r ih => simp [encTs, ih]
theorem take_snocB {α : Type} (d : α) (l : List α) (i : Nat) (h : i < l.length) : l.take (i + 1) = l.take i ++ [l.getD i d] := by
  rw [List.take_add_one, List.getD_eq_getElem?_getD, List.getElem?_eq_getElem h]; rfl
theorem encTs_snoc (l : List ByteArray) (i : Nat) (h : i < l.length) : encTs ((l.map sh).take (i + 1)) = encTs ((l.map sh).take i) ++ encT (bytesOf (sh (l.getD i ByteArray.empty))) := by
  rw [take_snocB ByteArray.empty _ i (by rw [List.length_map]; exact h), encTs_append]
  have e : (l.map sh).getD i ByteArray.empty = sh (l.getD i ByteArray.empty) := by
    rw [List.getD_eq_getElem?_getD, List.getD_eq_getElem?_getD, List.getElem?_map, List.getElem?_eq_getElem h]; rfl
  rw [e]; simp [encTs]
theorem encTs_drop (l : List ByteArray) (i m : Nat) (h : i < m) (hm : m ≤ l.length) : encTs (((l.map sh).take m).drop i) = encT (bytesOf (sh (l.getD i ByteArray.empty))) ++ encTs (((l.map sh).take m).drop (i + 1)) := by
  rw [drop_getD ((l.map sh).take m) i ByteArray.empty (by rw [List.length_take, List.length_map]; omega)]
  show encT (bytesOf _) ++ _ = _
  congr 3
  rw [List.getD_eq_getElem?_getD, List.getElem?_take, if_pos h, List.getD_eq_getElem?_getD, List.getElem?_map, List.getElem?_eq_getElem (by omega)]; rfl
theorem encT_len' {t : ByteArray} (h : t.size ≤ 100) : (encT (bytesOf t)).length ≤ 110 := by
  unfold encT
  rw [List.length_append, bytesOf_length]
  have := enc_len (x := (t.size : Int)) ⟨by omega, by omega⟩
  omega
theorem encT_bytes' (t : ByteArray) : isBytes (encT (bytesOf t)) := isBytes_append.2 ⟨enc_bytes _, bytesOf_isBytes t⟩
theorem encTs_len (l : List ByteArray) (h : ∀ x ∈ l, x.size ≤ 100) : (encTs l).length ≤ 110 * l.length := by
  induction l with
  | nil => exact Nat.le_refl _
  | cons x r ih =>
    have h1 := encT_len' (h x (by simp))
    have h2 := ih (fun y hy => h y (by simp [hy]))
    simp only [encTs, List.length_append, List.length_cons]; omega
theorem sh_all (l : List ByteArray) (i : Nat) : (encTs ((l.map sh).take i)).length ≤ 110 * i := by
  have h := encTs_len ((l.map sh).take i) (fun x hx => by
    have := List.mem_of_mem_take hx
    obtain ⟨y, _, rfl⟩ := List.mem_map.1 this
    exact sh_size y)
  rw [List.length_take] at h
  omega
theorem encTs_bytes (l : List ByteArray) : isBytes (encTs l) := by
  induction l with
  | nil => intro c hc; simp [encTs] at hc
  | cons x r ih => exact isBytes_append.2 ⟨encT_bytes' x, ih⟩
/-- The next text is taken. -/
theorem textNext (t : ByteArray) (r : List Int) (P : Nat → Prop) (w : World) (g : Nat) (l : List Int) (bad : Bool) (hI : Rd 47 P w g l bad) (hl : l = encT (bytesOf t) ++ r) (ht : t.size ≤ 9223372036854775807) (hr : isBytes r) :
    Calls Try.prog 20 #[.pointer (some ⟨g, 0, none⟩)] w fun e w' => e = .returned (.string t) ∧ Rd 47 P w' g r bad ∧ Below g w w' ∧ KeepBut w w' g none := by
  subst hl
  have h := text_calls P w g _ bad hI (isBytes_append.2 ⟨encT_bytes' t, hr⟩)
  have e : textOf (encT (bytesOf t) ++ r) = t ∧ aftT (encT (bytesOf t) ++ r) = r ∧ badT (encT (bytesOf t) ++ r) bad = bad := by
    unfold textOf aftT badT
    rw [decT_encT (by rw [bytesOf_length]; exact ht)]
    exact ⟨strOfNums_bytesOf t, rfl, by simp⟩
  obtain ⟨h1, h2, h3⟩ := e
  rwa [h1, h2, h3] at h
end Go.Proofs.Ytnkaighdajickaa.Num

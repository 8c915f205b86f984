/- Names: the plain laws. -/
import Derived.Test.YtkbnckpcllfikaaM7
namespace Go.Proofs.Ytkbnckpcllfikaa.Nam
open Go.RowKit Go.Proofs.YtkbnckpcllfikaaW.PrintWords Go.Proofs.YtkbnckpcllfikaaW.PrintLast Go.Proofs.YtkbnckpcllfikaaW.PrintMore Go.Proofs.Ytkbnckpcllfikaa.Num Go.Proofs.Ytkbnckpcllfikaa.Prt
set_option linter.unusedVariables false
set_option linter.unusedSimpArgs false

theorem letD_app {a : List Int} (b : List Int) (h : letD a ≠ 0) : letD (a ++ b) = letD a := by
  match a, h with
  | [], h => exact absurd rfl h
  | [c], h =>
    simp only [letD] at h
    by_cases hp : plainC c = true
    · rw [letD_pos1 hp]; exact letD_pos1 hp
    · rw [if_neg hp] at h; exact absurd rfl h
  | c :: d :: r, h => rfl
theorem lettersOnly_split : ∀ (n : Nat) (a b : List Int), a.length ≤ n → lettersOnly a = true → lettersOnly (a ++ b) = lettersOnly b ∧ foldL (a ++ b) = a ++ foldL b := by
  intro n
  induction n with
  | zero =>
    intro a b h _
    obtain rfl : a = [] := List.length_eq_zero_iff.1 (by omega)
    exact ⟨rfl, rfl⟩
  | succ n ih =>
    intro a b hn ha
    by_cases h : letD a = 0
    · by_cases he : a = []
      · subst he; exact ⟨rfl, rfl⟩
      · rw [lettersOnly_bad h he] at ha; cases ha
    · have hle := letD_le a
      have happ := letD_app b h
      have hdrop : (a ++ b).drop (letD a) = a.drop (letD a) ++ b := List.drop_append_of_le_length hle.1
      have htake : (a ++ b).take (letD a) = a.take (letD a) := List.take_append_of_le_length hle.1
      rw [lettersOnly_step h] at ha
      obtain ⟨i1, i2⟩ := ih (a.drop (letD a)) b (by rw [List.length_drop]; omega) ha
      refine ⟨?_, ?_⟩
      · rw [lettersOnly_step (by rw [happ]; exact h), happ, hdrop, i1]
      · have hne : a ++ b ≠ [] := fun e => by have := (List.append_eq_nil_iff.1 e).1; subst this; exact h rfl
        have e : stepL (a ++ b) = (a.take (letD a), letD a) := by unfold stepL; simp only [happ]; rw [if_pos (by omega), htake]
        rw [foldL_step hne, e]
        simp only
        rw [hdrop, i2, ← List.append_assoc, List.take_append_drop]
theorem lettersOnly_app {a : List Int} (b : List Int) (h : lettersOnly a = true) : lettersOnly (a ++ b) = lettersOnly b := (lettersOnly_split _ a b (Nat.le_refl _) h).1
theorem foldL_app {a : List Int} (b : List Int) (h : lettersOnly a = true) : foldL (a ++ b) = a ++ foldL b := (lettersOnly_split _ a b (Nat.le_refl _) h).2
theorem foldL_letters {a : List Int} (h : lettersOnly a = true) : foldL a = a := by
  have := foldL_app [] h
  rwa [List.append_nil, foldL_nil, List.append_nil] at this
theorem letters_take {l : List Int} (h : letD l ≠ 0) : lettersOnly (l.take (letD l)) = true := by
  match l, h with
  | [], h => exact absurd rfl h
  | [c], h =>
    by_cases hp : plainC c = true
    · rw [letD_pos1 hp]; show lettersOnly [c] = true; rw [lo1 hp, lettersOnly_nil]
    · simp only [letD, if_neg hp] at h; exact absurd rfl h
  | c :: d :: r, h =>
    by_cases hp : plainC c = true
    · rw [letD_pos1 hp]; show lettersOnly [c] = true; rw [lo1 hp, lettersOnly_nil]
    · by_cases ht : two c d = true
      · rw [letD_two ht]; show lettersOnly [c, d] = true; rw [lo2 ht, lettersOnly_nil]
      · simp only [letD, if_neg hp, if_neg ht] at h; exact absurd rfl h
theorem letters_big (l : List Int) : lettersOnly (bigD l) = true := by
  match l with
  | [] => exact lettersOnly_nil
  | [c] => exact lettersOnly_nil
  | c :: d :: r =>
    simp only [bigD, big]
    repeat' split
    · rw [lo2 (by decide), lettersOnly_nil]
    · rw [lo2 (by decide), lettersOnly_nil]
    · rw [lo2 (by decide), lettersOnly_nil]
    · exact lettersOnly_nil
theorem letters_step (l : List Int) : lettersOnly (stepL l).1 = true := by
  simp only [stepL]
  repeat' split
  · exact letters_take (by omega)
  · rename_i h
    rw [lo1 (by unfold plainC; simp only [Bool.or_eq_true, decide_eq_true_eq]; omega), lettersOnly_nil]
  · rw [lo1 (by decide), lettersOnly_nil]
  · exact letters_big l
  · exact lettersOnly_nil
theorem fold_facts : ∀ (n : Nat) (l : List Int), l.length ≤ n → lettersOnly (foldL l) = true ∧ (foldL l).length ≤ l.length := by
  intro n
  induction n with
  | zero =>
    intro l h
    obtain rfl : l = [] := List.length_eq_zero_iff.1 (by omega)
    rw [foldL_nil]; exact ⟨lettersOnly_nil, Nat.le_refl _⟩
  | succ n ih =>
    intro l h
    by_cases hl : l = []
    · subst hl; rw [foldL_nil]; exact ⟨lettersOnly_nil, Nat.le_refl _⟩
    · obtain ⟨h1, h2, h3⟩ := stepL_len hl
      obtain ⟨i1, i2⟩ := ih (l.drop (stepL l).2) (by rw [List.length_drop]; omega)
      rw [foldL_step hl]
      refine ⟨?_, ?_⟩
      · rw [lettersOnly_app _ (letters_step l)]; exact i1
      · rw [List.length_append]; rw [List.length_drop] at i2; omega
theorem letters_fold (l : List Int) : lettersOnly (foldL l) = true := (fold_facts _ l (Nat.le_refl _)).1
theorem fold_len (l : List Int) : (foldL l).length ≤ l.length := (fold_facts _ l (Nat.le_refl _)).2
theorem fold_fold (l : List Int) : foldL (foldL l) = foldL l := foldL_letters (letters_fold l)
theorem fold_iff (l : List Int) : foldL l = l ↔ lettersOnly l = true := ⟨fun h => h ▸ letters_fold l, foldL_letters⟩
theorem may_parts {l : List Int} (h : mayL l = true) : 1 ≤ l.length ∧ l.length ≤ 24 ∧ notFirst (l.getD 0 0) = false ∧ lettersOnly l = true := by
  unfold mayL at h
  simp only [Bool.and_eq_true, decide_eq_true_eq, Bool.not_eq_true'] at h
  exact ⟨h.1.1.1, h.1.1.2, h.1.2, h.2⟩
theorem getD_app {a : List Int} (b : List Int) (h : 1 ≤ a.length) : (a ++ b).getD 0 0 = a.getD 0 0 := by
  cases a with
  | nil => simp at h
  | cons c r => rfl
theorem may_app {a b : List Int} (ha : mayL a = true) (hb : lettersOnly b = true) (hl : a.length + b.length ≤ 24) : mayL (a ++ b) = true := by
  obtain ⟨h1, h2, h3, h4⟩ := may_parts ha
  refine may_of (by rw [List.length_append]; omega) (by rw [getD_app b h1]; exact h3) (by rw [lettersOnly_app b h4]; exact hb)
theorem may_take {l : List Int} (h : mayL l = true) {n : Nat} (h0 : 0 < n) (hn : n ≤ l.length) : mayL (l.take n) = lettersOnly (l.take n) := by
  obtain ⟨h1, h2, h3, h4⟩ := may_parts h
  have e : (l.take n).getD 0 0 = l.getD 0 0 := by
    cases l with
    | nil => simp at h1
    | cons c r => cases n with
      | zero => omega
      | succ n => rfl
  unfold mayL
  rw [e, h3, decide_eq_true (by rw [List.length_take]; omega)]; rfl
theorem letters_bytes : ∀ (n : Nat) (l : List Int), l.length ≤ n → lettersOnly l = true → isBytes l := by
  intro n
  induction n with
  | zero =>
    intro l h _
    obtain rfl : l = [] := List.length_eq_zero_iff.1 (by omega)
    intro c hc; simp at hc
  | succ n ih =>
    intro l hn ha
    match l, ha, hn with
    | [], _, _ => intro c hc; simp at hc
    | [c], ha, _ =>
      by_cases hp : plainC c = true
      · have := plain_range hp
        intro x hx
        rw [List.mem_singleton] at hx; omega
      · rw [lettersOnly_bad (by simp [letD, hp]) (by simp)] at ha; cases ha
    | c :: d :: r, ha, hn =>
      simp only [List.length_cons] at hn
      by_cases hp : plainC c = true
      · have := plain_range hp
        rw [lo1 hp] at ha
        have h2 := ih (d :: r) (by simp only [List.length_cons]; omega) ha
        intro x hx
        rcases List.mem_cons.1 hx with rfl | hx
        · omega
        · exact h2 x hx
      · by_cases ht : two c d = true
        · rw [lo2 ht] at ha
          have h2 := ih r (by omega) ha
          rw [two_iff] at ht
          intro x hx
          rcases List.mem_cons.1 hx with rfl | hx
          · omega
          · rcases List.mem_cons.1 hx with rfl | hx
            · omega
            · exact h2 x hx
        · rw [lettersOnly_bad (by simp only [letD, if_neg hp, if_neg ht]) (by simp)] at ha; cases ha
theorem fold_bytes (l : List Int) : isBytes (foldL l) := letters_bytes _ _ (Nat.le_refl _) (letters_fold l)
theorem str_fold {t f : ByteArray} (h : f = strOfNums (foldL (bytesOf t))) : (f.toList == t.toList) = lettersOnly (bytesOf t) := by
  rw [str_beq', Bool.eq_iff_iff, decide_eq_true_iff, ← fold_iff]
  constructor
  · intro e
    have h2 := congrArg bytesOf (e.symm.trans h)
    rw [bytesOf_strOfNums (fold_bytes _)] at h2
    exact h2.symm
  · intro e
    rw [h, e, strOfNums_bytesOf]
theorem fold_size {t f : ByteArray} (h : f = strOfNums (foldL (bytesOf t))) : f.size ≤ t.size := by
  rw [h, strOfNums_size', ← bytes_length]
  exact fold_len _
theorem fold_cat {a b f : ByteArray} (ha : lettersOnly (bytesOf a) = true) (h : f = strOfNums (foldL (bytesOf b))) : a ++ f = strOfNums (foldL (bytesOf (a ++ b))) := by
  rw [bytes_append, foldL_app _ ha, str_append, strOfNums_bytesOf, h]
end Go.Proofs.Ytkbnckpcllfikaa.Nam

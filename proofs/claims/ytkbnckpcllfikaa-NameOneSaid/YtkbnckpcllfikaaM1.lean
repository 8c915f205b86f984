/- What the reference answers of names: by lists of bytes. -/
import Derived.Test.YtkbnckpcllfikaaM0
namespace Go.Proofs.Ytkbnckpcllfikaa.Nam
open Go.RowKit Go.Proofs.YtkbnckpcllfikaaW.PrintWords Go.Proofs.YtkbnckpcllfikaaW.PrintLast Go.Proofs.YtkbnckpcllfikaaW.PrintMore Go.Proofs.Ytkbnckpcllfikaa.Num Go.Proofs.Ytkbnckpcllfikaa.Prt
set_option linter.unusedVariables false
set_option linter.unusedSimpArgs false

theorem letD_le (l : List Int) : letD l ≤ l.length ∧ letD l ≤ 2 := by
  match l with
  | [] => simp [letD]
  | [c] => simp only [letD, List.length_cons, List.length_nil]; split <;> omega
  | c :: d :: r => simp only [letD, List.length_cons]; (repeat' split) <;> omega
theorem letD_nil : letD [] = 0 := rfl
def lettersOnly (l : List Int) : Bool := if h : letD l = 0 then l.isEmpty else lettersOnly (l.drop (letD l))
termination_by l.length
decreasing_by
  have := letD_le l
  rw [List.length_drop]; omega
theorem lettersOnly_nil : lettersOnly [] = true := by rw [lettersOnly]; rfl
theorem lettersOnly_bad {l : List Int} (h : letD l = 0) (hl : l ≠ []) : lettersOnly l = false := by rw [lettersOnly, dif_pos h]; cases l with | nil => exact absurd rfl hl | cons c r => rfl
theorem lettersOnly_step {l : List Int} (h : letD l ≠ 0) : lettersOnly l = lettersOnly (l.drop (letD l)) := by rw [lettersOnly, dif_neg h]
def notFirst (c : Int) : Bool := decide (48 ≤ c ∧ c ≤ 57) || decide (c = 45)
def mayL (l : List Int) : Bool := decide (1 ≤ l.length ∧ l.length ≤ 24) && !notFirst (l.getD 0 0) && lettersOnly l
/-- What is folded at the head: the bytes laid, and how many are taken. -/
def stepL (l : List Int) : List Int × Nat :=
  let c := l.getD 0 0
  if 0 < letD l then (l.take (letD l), letD l)
  else if 65 ≤ c ∧ c ≤ 90 then ([c + 32], 1)
  else if c = 32 ∨ c = 46 ∨ c = 47 then ([45], 1)
  else if bigD l ≠ [] then (bigD l, 2)
  else ([], 1)
theorem bigD_len (l : List Int) : bigD l = [] ∨ ((bigD l).length = 2 ∧ 2 ≤ l.length) := by
  match l with
  | [] => exact .inl rfl
  | [c] => exact .inl rfl
  | c :: d :: r => simp only [bigD, big, List.length_cons]; (repeat' split) <;> simp
theorem stepL_len {l : List Int} (hl : l ≠ []) : 1 ≤ (stepL l).2 ∧ (stepL l).2 ≤ l.length ∧ (stepL l).1.length ≤ (stepL l).2 := by
  have h1 := letD_le l
  have h2 := bigD_len l
  have h3 : 1 ≤ l.length := List.length_pos_iff.2 hl
  simp only [stepL]
  repeat' split
  · rw [List.length_take]; omega
  · simp; omega
  · simp; omega
  · rcases h2 with h | ⟨h, h'⟩
    · contradiction
    · exact ⟨Nat.le_succ 1, h', Nat.le_of_eq h⟩
  · simp; omega
def foldL (l : List Int) : List Int := if h : l = [] then [] else (stepL l).1 ++ foldL (l.drop (stepL l).2)
termination_by l.length
decreasing_by
  have := stepL_len h
  rw [List.length_drop]; omega
theorem foldL_nil : foldL [] = [] := by rw [foldL]; rfl
theorem foldL_step {l : List Int} (h : l ≠ []) : foldL l = (stepL l).1 ++ foldL (l.drop (stepL l).2) := by rw [foldL, dif_neg h]

theorem letters_val (s : ByteArray) (hs : s.size ≤ 9223372036854775000) : ∀ (n i k : Nat), s.size ≤ i + n → i ≤ s.size → registrarref03_May.l0 (k + 6 + n) s (i : Int) = some (lettersOnly ((bytesOf s).drop i)) := by
  intro n
  induction n with
  | zero =>
    intro i k h1 h2
    have e : (bytesOf s).drop i = [] := List.drop_eq_nil_of_le (by rw [bytes_length]; omega)
    rw [e, lettersOnly_nil]
    show registrarref03_May.l0 ((k + 5) + 1) s (i : Int) = _
    rw [registrarref03_May.l0, if_neg (by omega)]
  | succ n ih =>
    intro i k h1 h2
    by_cases hi : i < s.size
    · have hne : (bytesOf s).drop i ≠ [] := fun e => by have := congrArg List.length e; rw [List.length_drop, bytes_length] at this; simp at this; omega
      have hle := letD_le ((bytesOf s).drop i)
      rw [List.length_drop, bytes_length] at hle
      rw [show k + 6 + (n + 1) = (k + 1 + n + 5) + 1 by omega]
      rw [registrarref03_May.l0, if_pos (by omega), letter_val _ s i (by omega) hi, Option.bind_some]
      generalize hn : letD ((bytesOf s).drop i) = m at *
      by_cases h0 : m = 0
      · subst h0
        rw [if_pos (show ((0 : Nat) : Int) = 0 from rfl), lettersOnly_bad hn hne]
      · rw [if_neg (by omega), wrap_small (by omega) (by omega), lettersOnly_step (by omega), hn, List.drop_drop, ← Int.natCast_add, show k + 1 + n + 5 = k + 6 + n by omega]
        exact ih (i + m) k (by omega) (by omega)
    · have e : (bytesOf s).drop i = [] := List.drop_eq_nil_of_le (by rw [bytes_length]; omega)
      rw [e, lettersOnly_nil]
      rw [show k + 6 + (n + 1) = (k + 1 + n + 5) + 1 by omega]
      rw [registrarref03_May.l0, if_neg (by omega)]
theorem may_val (s : ByteArray) (hs : s.size ≤ 9223372036854775000) : registrarref03_May.f (s.size + 8) s = some (mayL (bytesOf s)) := by
  have hj : ∀ b, registrarref03_May.j0 (s.size + 8) s b = some (!b && lettersOnly (bytesOf s)) := by
    intro b
    rw [show s.size + 8 = (1 + 6 + s.size) + 1 by omega]
    rw [registrarref03_May.j0]
    cases b
    · rw [if_neg (by decide)]
      have := letters_val s hs s.size 0 1 (by omega) (by omega)
      rw [List.drop_zero] at this
      simpa using this
    · rfl
  unfold registrarref03_May.f mayL
  simp only [hj]
  rw [bytes_length]
  by_cases h1 : (s.size : Int) < 1
  · rw [if_pos h1]
    simp; omega
  · rw [if_neg h1]
    by_cases h2 : (s.size : Int) > 24
    · rw [if_pos h2]
      simp; omega
    · rw [if_neg h2, if_pos (by omega)]
      have e := bt_getD s 0 (by omega)
      have e2 : ((0 : Nat) : Int) = 0 := rfl
      rw [e2] at e
      rw [e]
      have e3 : decide (1 ≤ s.size ∧ s.size ≤ 24) = true := decide_eq_true (by omega)
      rw [e3]
      generalize (bytesOf s).getD 0 0 = c
      unfold notFirst
      repeat' split
      all_goals (congr 1; rw [Bool.eq_iff_iff]; simp; try omega)
theorem strOfNums_size' (l : List Int) : (strOfNums l).size = l.length := by unfold strOfNums; show (List.toArray _).size = _; simp
theorem extract_str (s : ByteArray) (i j : Nat) : s.extract i j = strOfNums (((bytesOf s).drop i).take (j - i)) := by
  rw [← bytes_extract, strOfNums_bytesOf]
theorem letters_upper {c : Int} {r : List Int} (h : ¬ 0 < letD (c :: r)) : letD (c :: r) = 0 := by omega
theorem fold_vals (s : ByteArray) (hs : s.size ≤ 4611686018427387904) : ∀ (n i k : Nat) (out : ByteArray), s.size ≤ i + n → i ≤ s.size → out.size ≤ i → registrarref03_Fold.l0 (k + 7 + 3 * n) s out (i : Int) = some (out ++ strOfNums (foldL ((bytesOf s).drop i))) := by
  intro n
  induction n with
  | zero =>
    intro i k out h1 h2 h3
    have e : (bytesOf s).drop i = [] := List.drop_eq_nil_of_le (by rw [bytes_length]; omega)
    rw [e, foldL_nil, show k + 7 + 3 * 0 = (k + 6) + 1 by omega, registrarref03_Fold.l0, if_neg (by omega)]
    congr 1
    exact (ByteArray.append_empty ..).symm
  | succ n ih =>
    intro i k out h1 h2 h3
    by_cases hi : i < s.size
    · have hl : i < (bytesOf s).length := by rw [bytes_length]; exact hi
      have hne : (bytesOf s).drop i ≠ [] := fun e => by have := congrArg List.length e; rw [List.length_drop, bytes_length] at this; simp at this; omega
      have hle := letD_le ((bytesOf s).drop i)
      have hbl := bigD_len ((bytesOf s).drop i)
      rw [List.length_drop, bytes_length] at hle hbl
      have hhd : ((bytesOf s).drop i).getD 0 0 = (bytesOf s).getD i 0 := by rw [drop_cons _ i hl]; rfl
      have hbyte := bytesOf_isBytes s ((bytesOf s).getD i 0) (by rw [List.getD_eq_getElem?_getD, List.getElem?_eq_getElem hl]; exact List.getElem_mem hl)
      rw [foldL_step hne, show k + 7 + 3 * (n + 1) = (k + 4 + 3 * n + 5) + 1 by omega, registrarref03_Fold.l0, if_pos (by omega), if_pos (by omega), letter_val _ s i (by omega) hi, Option.bind_some, show k + 4 + 3 * n + 5 = (k + 5 + 3 * n) + 4 by omega, folded_val _ s i (by omega) hi, Option.bind_some, bt_getD s i hi]
      unfold stepL
      rw [hhd]
      generalize (bytesOf s).getD i 0 = c at *
      have hnext : ∀ (k2 : Nat) (o : List Int) (m : Nat), 1 ≤ m → i + m ≤ s.size → o.length ≤ m → registrarref03_Fold.l0 (k2 + 7 + 3 * n) s (out ++ strOfNums o) (wrap64 ((i : Int) + (m : Int))) = some (out ++ strOfNums (o ++ foldL (((bytesOf s).drop i).drop m))) := by
        intro k2 o m g1 g2 g3
        rw [wrap_small (by omega) (by omega), ← Int.natCast_add, List.drop_drop, str_append, ← ByteArray.append_assoc]
        exact ih (i + m) k2 _ (by omega) (by omega) (by rw [ByteArray.size_append, strOfNums_size']; omega)
      by_cases h0 : 0 < letD ((bytesOf s).drop i)
      · have hw : wrap64 ((i : Int) + (letD ((bytesOf s).drop i) : Nat)) = ((i + letD ((bytesOf s).drop i) : Nat) : Int) := by rw [wrap_small (by omega) (by omega)]; omega
        have hx := extract_str s i (i + letD ((bytesOf s).drop i))
        rw [Nat.add_sub_cancel_left] at hx
        have hsz : (s.extract i (i + letD ((bytesOf s).drop i))).size ≤ 2 := by rw [ByteArray.size_extract]; omega
        rw [if_pos (by omega), if_pos h0, hw, if_pos (by omega), if_pos (by omega), Int.toNat_natCast, Int.toNat_natCast, if_pos (by omega), hx, ← hw, show k + 5 + 3 * n + 4 = (k + 2) + 7 + 3 * n by omega]
        exact hnext (k + 2) _ _ (by omega) (by omega) (by rw [List.length_take]; omega)
      · rw [if_neg (by omega), if_neg h0]
        by_cases hu : 65 ≤ c ∧ c ≤ 90
        · have e1 : (((c - 65) % 256) + 97) % 256 = c + 32 := by omega
          have hsz : (strOfNums [c + 32]).size = 1 := by rw [strOfNums_size']; rfl
          rw [if_pos hu.1, decide_eq_true hu.2, if_pos hu, show k + 5 + 3 * n + 4 = (k + 5 + 3 * n + 3) + 1 by omega, registrarref03_Fold.j1, if_pos rfl, Option.bind_some, e1, if_pos (by omega), show k + 5 + 3 * n + 3 = (k + 1) + 7 + 3 * n by omega]
          exact hnext (k + 1) [c + 32] 1 (by omega) (by omega) (by simp)
        · have hb : (if c ≥ 65 then registrarref03_Fold.j1 (k + 5 + 3 * n + 4) s out (i : Int) c (strOfNums (bigD ((bytesOf s).drop i))) (decide (c ≤ 90)) else registrarref03_Fold.j1 (k + 5 + 3 * n + 4) s out (i : Int) c (strOfNums (bigD ((bytesOf s).drop i))) false) = registrarref03_Fold.j1 (k + 5 + 3 * n + 4) s out (i : Int) c (strOfNums (bigD ((bytesOf s).drop i))) false := by
            split
            · rw [decide_eq_false (by omega)]
            · rfl
          rw [hb, if_neg hu, show k + 5 + 3 * n + 4 = ((k + 5 + 3 * n + 2) + 1) + 1 by omega, registrarref03_Fold.j1, if_neg (by decide)]
          have hb2 : (if c = 32 then registrarref03_Fold.j2 ((k + 5 + 3 * n + 2) + 1) s out (i : Int) (strOfNums (bigD ((bytesOf s).drop i))) true else (if c = 46 then registrarref03_Fold.j2 ((k + 5 + 3 * n + 2) + 1) s out (i : Int) (strOfNums (bigD ((bytesOf s).drop i))) true else registrarref03_Fold.j2 ((k + 5 + 3 * n + 2) + 1) s out (i : Int) (strOfNums (bigD ((bytesOf s).drop i))) (c == 47))) = registrarref03_Fold.j2 ((k + 5 + 3 * n + 2) + 1) s out (i : Int) (strOfNums (bigD ((bytesOf s).drop i))) (decide (c = 32 ∨ c = 46 ∨ c = 47)) := by
            by_cases g1 : c = 32
            · rw [if_pos g1, decide_eq_true (.inl g1)]
            · rw [if_neg g1]
              by_cases g2 : c = 46
              · rw [if_pos g2, decide_eq_true (.inr (.inl g2))]
              · rw [if_neg g2]
                congr 1
                rw [Bool.eq_iff_iff]; simp [g1, g2]
          rw [hb2, registrarref03_Fold.j2]
          have t45 : (⟨#[45]⟩ : ByteArray) = strOfNums [45] := rfl
          by_cases hs3 : c = 32 ∨ c = 46 ∨ c = 47
          · rw [if_pos (decide_eq_true hs3), if_pos hs3, if_pos (by omega), t45, show k + 5 + 3 * n + 2 = k + 7 + 3 * n by omega]
            exact hnext k [45] 1 (by omega) (by omega) (by simp)
          · rw [if_neg (by simpa using hs3), if_neg hs3]
            by_cases hbg : bigD ((bytesOf s).drop i) = []
            · have e0 : (strOfNums (bigD ((bytesOf s).drop i))).toList = [] := by rw [hbg, strOfNums_toList]; rfl
              rw [if_pos e0, if_neg (by simpa using hbg), show k + 5 + 3 * n + 2 = k + 7 + 3 * n by omega]
              have := hnext k [] 1 (by omega) (by omega) (by simp)
              have e9 : out ++ strOfNums [] = out := ByteArray.append_empty ..
              rwa [e9] at this
            · rcases hbl with g | ⟨g1, g2⟩
              · exact absurd g hbg
              · have e0 : ¬ (strOfNums (bigD ((bytesOf s).drop i))).toList = [] := fun e => by
                  have := congrArg List.length e
                  rw [strOfNums_toList, List.length_map, g1] at this
                  simp at this
                have hsz : (strOfNums (bigD ((bytesOf s).drop i))).size = 2 := by rw [strOfNums_size', g1]
                rw [if_neg e0, if_pos hbg, if_pos (by omega), show k + 5 + 3 * n + 2 = k + 7 + 3 * n by omega]
                exact hnext k _ 2 (by omega) (by omega) (by omega)
    · have e : (bytesOf s).drop i = [] := List.drop_eq_nil_of_le (by rw [bytes_length]; omega)
      rw [e, foldL_nil, show k + 7 + 3 * (n + 1) = (k + 9 + 3 * n) + 1 by omega, registrarref03_Fold.l0, if_neg (by omega)]
      congr 1
      exact (ByteArray.append_empty ..).symm
theorem fold_val (s : ByteArray) (hs : s.size ≤ 4611686018427387904) : registrarref03_Fold.f (7 + 3 * s.size) s = some (strOfNums (foldL (bytesOf s))) := by
  have h := fold_vals s hs s.size 0 0 ⟨#[]⟩ (by omega) (by omega) (Nat.le_refl 0)
  rw [List.drop_zero, Nat.zero_add] at h
  have e : (⟨#[]⟩ : ByteArray) ++ strOfNums (foldL (bytesOf s)) = strOfNums (foldL (bytesOf s)) := ByteArray.empty_append ..
  rw [e] at h
  exact h
end Go.Proofs.Ytkbnckpcllfikaa.Nam

/- Names as lists of bytes, and what the reference's printed functions come to at them. -/
import Derived.Test.YtkbnckpcllfikaaL2
import Derived.Test.YtkbnckpcllfikaaQ1
namespace Go.Proofs.Ytkbnckpcllfikaa.Nam
open Go.RowKit Go.Proofs.YtkbnckpcllfikaaW.PrintWords Go.Proofs.YtkbnckpcllfikaaW.PrintLast Go.Proofs.YtkbnckpcllfikaaW.PrintMore Go.Proofs.Ytkbnckpcllfikaa.Num Go.Proofs.Ytkbnckpcllfikaa.Prt
set_option linter.unusedVariables false
set_option linter.unusedSimpArgs false

def plainC (c : Int) : Bool := decide (97 ≤ c ∧ c ≤ 122) || decide (48 ≤ c ∧ c ≤ 57) || decide (c = 45) || decide (c = 95)
def two (c d : Int) : Bool := decide (c = 195 ∧ (d = 169 ∨ d = 184 ∨ d = 159)) || decide (c = 206 ∧ d = 187)
/-- What two bytes are folded to. -/
def big (c d : Int) : List Int := if c = 195 ∧ d = 137 then [195, 169] else if c = 195 ∧ d = 152 then [195, 184] else if c = 206 ∧ d = 155 then [206, 187] else []
/-- How many bytes the letter at the head has. -/
def letD : List Int → Nat
  | [] => 0
  | [c] => if plainC c then 1 else 0
  | c :: d :: _ => if plainC c then 1 else if two c d then 2 else 0
def bigD : List Int → List Int
  | c :: d :: _ => big c d
  | _ => []
theorem bytes_extract (s : ByteArray) (i j : Nat) : bytesOf (s.extract i j) = ((bytesOf s).drop i).take (j - i) := by
  unfold bytesOf
  rw [ByteArray.data_extract, Array.toList_extract, List.extract_eq_take_drop, List.map_take, List.map_drop]
theorem ext_beq (s t : ByteArray) (i j : Nat) : ((s.extract i j).toList == t.toList) = decide (((bytesOf s).drop i).take (j - i) = bytesOf t) := by
  rw [str_beq', ← bytes_extract]
  exact decide_eq_decide.mpr ⟨fun h => by rw [h], fun h => bytesOf_inj h⟩
theorem bytes_length (s : ByteArray) : (bytesOf s).length = s.size := by unfold bytesOf; rw [List.length_map, Array.length_toList]; rfl
theorem bt_getD (s : ByteArray) (i : Nat) (h : i < s.size) : bt s (i : Int) = (bytesOf s).getD i 0 := by
  unfold bt
  rw [Int.toNat_natCast, dif_pos h]
  unfold bytesOf
  rw [List.getD_eq_getElem?_getD, List.getElem?_map, List.getElem?_eq_getElem (by rw [Array.length_toList]; exact h)]
  simp
  rfl
theorem wrap_small {n : Int} (h0 : -9223372036854775808 ≤ n) (h1 : n ≤ 9223372036854775807) : wrap64 n = n := by unfold wrap64; omega
theorem begins2 (s t : ByteArray) (i : Nat) (hs : s.size ≤ 9223372036854775800) (hi : i ≤ s.size) (ht : t.size = 2) : registrarref03_begins.f s (i : Int) t = some (decide (((bytesOf s).drop i).take 2 = bytesOf t)) := by
  unfold registrarref03_begins.f
  rw [wrap_small (n := (s.size : Int) - i) (by omega) (by omega), wrap_small (n := (i : Int) + (t.size : Int)) (by omega) (by omega), ht]
  by_cases h : (s.size : Int) - i ≥ 2
  · have e1 : ((i : Int) + ((2 : Nat) : Int)).toNat = i + 2 := by omega
    rw [if_pos (by exact_mod_cast h), if_pos (by omega), if_pos (by omega), if_pos (by omega), ext_beq, e1, Int.toNat_natCast, Nat.add_sub_cancel_left]
  · rw [if_neg (by exact_mod_cast h)]
    congr 1
    symm
    refine decide_eq_false (fun e => ?_)
    have h1 := congrArg List.length e
    rw [List.length_take, List.length_drop, bytes_length, bytes_length, ht] at h1
    omega
theorem plain_val (c : Int) : registrarref03_plain.f c = some (plainC c) := by
  unfold registrarref03_plain.f plainC
  repeat' split
  all_goals (congr 1; rw [Bool.eq_iff_iff]; simp; try omega)
theorem take2 (l : List Int) (a b : Int) : decide (l.take 2 = [a, b]) = (match l with | c :: d :: _ => decide (c = a ∧ d = b) | _ => false) := by
  match l with
  | [] => simp
  | [c] => simp
  | c :: d :: r => simp
theorem bytes_of2 (a b : UInt8) : bytesOf ⟨#[a, b]⟩ = [(a.toNat : Int), (b.toNat : Int)] := rfl
theorem drop_cons (l : List Int) (i : Nat) (h : i < l.length) : l.drop i = l.getD i 0 :: l.drop (i + 1) := by
  rw [List.drop_eq_getElem_cons h, List.getD_eq_getElem?_getD, List.getElem?_eq_getElem h]; rfl
theorem letter_val (k : Nat) (s : ByteArray) (i : Nat) (hs : s.size ≤ 9223372036854775800) (hi : i < s.size) : registrarref03_letter.f (k + 5) s (i : Int) = some ((letD ((bytesOf s).drop i) : Nat) : Int) := by
  have hl : i < (bytesOf s).length := by rw [bytes_length]; exact hi
  unfold registrarref03_letter.f
  rw [if_pos (by omega), if_pos (by omega), bt_getD s i hi, plain_val, drop_cons _ i hl]
  simp only [Option.bind_some]
  generalize hc : (bytesOf s).getD i 0 = c
  by_cases hp : plainC c = true
  · rw [if_pos hp]
    cases hr : (bytesOf s).drop (i + 1) with
    | nil => simp [letD, hp]
    | cons d r => simp [letD, hp]
  · rw [if_neg hp]
    have b1 : ∀ a b : UInt8, registrarref03_begins.f s (i : Int) ⟨#[a, b]⟩ = some (match c :: (bytesOf s).drop (i + 1) with | c :: d :: _ => decide (c = (a.toNat : Int) ∧ d = (b.toNat : Int)) | _ => false) := by
      intro a b
      rw [begins2 s ⟨#[a, b]⟩ i hs (by omega) rfl, bytes_of2, take2, drop_cons _ i hl, hc]
    have h0 : wrap64 ((0 : Int) + 1) = 1 := wrap_small (by decide) (by decide)
    have h1 : wrap64 ((1 : Int) + 1) = 2 := wrap_small (by decide) (by decide)
    have h2 : wrap64 ((2 : Int) + 1) = 3 := wrap_small (by decide) (by decide)
    have h3 : wrap64 ((3 : Int) + 1) = 4 := wrap_small (by decide) (by decide)
    have r0 : rdOf ByteArray.empty [(⟨#[195, 169]⟩ : ByteArray), ⟨#[195, 184]⟩, ⟨#[195, 159]⟩, ⟨#[206, 187]⟩] 0 = ⟨#[195, 169]⟩ := rfl
    have r1 : rdOf ByteArray.empty [(⟨#[195, 169]⟩ : ByteArray), ⟨#[195, 184]⟩, ⟨#[195, 159]⟩, ⟨#[206, 187]⟩] 1 = ⟨#[195, 184]⟩ := rfl
    have r2 : rdOf ByteArray.empty [(⟨#[195, 169]⟩ : ByteArray), ⟨#[195, 184]⟩, ⟨#[195, 159]⟩, ⟨#[206, 187]⟩] 2 = ⟨#[195, 159]⟩ := rfl
    have r3 : rdOf ByteArray.empty [(⟨#[195, 169]⟩ : ByteArray), ⟨#[195, 184]⟩, ⟨#[195, 159]⟩, ⟨#[206, 187]⟩] 3 = ⟨#[206, 187]⟩ := rfl
    simp only [registrarref03_letters.f, Option.bind_some, registrarref03_letter.l0, List.length_cons, List.length_nil, h0, h1, h2, h3, r0, r1, r2, r3, b1]
    cases hr : (bytesOf s).drop (i + 1) with
    | nil => simp [letD, hp]
    | cons d r =>
      simp only [letD, if_neg hp, two]
      by_cases c1 : c = 195
      · subst c1
        by_cases d1 : d = 169
        · subst d1; simp
        · by_cases d2 : d = 184
          · subst d2; simp
          · by_cases d3 : d = 159
            · subst d3; simp
            · simp [d1, d2, d3]
      · by_cases c2 : c = 206
        · subst c2
          by_cases d1 : d = 187
          · subst d1; simp
          · simp [d1]
        · simp [c1, c2]
theorem folded_val (k : Nat) (s : ByteArray) (i : Nat) (hs : s.size ≤ 9223372036854775800) (hi : i < s.size) : registrarref03_folded.f (k + 4) s (i : Int) = some (strOfNums (bigD ((bytesOf s).drop i))) := by
  have hl : i < (bytesOf s).length := by rw [bytes_length]; exact hi
  unfold registrarref03_folded.f
  have b1 : ∀ a b : UInt8, registrarref03_begins.f s (i : Int) ⟨#[a, b]⟩ = some (match (bytesOf s).drop i with | c :: d :: _ => decide (c = (a.toNat : Int) ∧ d = (b.toNat : Int)) | _ => false) := by
    intro a b
    rw [begins2 s ⟨#[a, b]⟩ i hs (by omega) rfl, bytes_of2, take2]
  have h0 : wrap64 ((0 : Int) + 1) = 1 := wrap_small (by decide) (by decide)
  have h1 : wrap64 ((1 : Int) + 1) = 2 := wrap_small (by decide) (by decide)
  have h2 : wrap64 ((2 : Int) + 1) = 3 := wrap_small (by decide) (by decide)
  have r0 : rdOf ByteArray.empty [(⟨#[195, 137]⟩ : ByteArray), ⟨#[195, 152]⟩, ⟨#[206, 155]⟩] 0 = ⟨#[195, 137]⟩ := rfl
  have r1 : rdOf ByteArray.empty [(⟨#[195, 137]⟩ : ByteArray), ⟨#[195, 152]⟩, ⟨#[206, 155]⟩] 1 = ⟨#[195, 152]⟩ := rfl
  have r2 : rdOf ByteArray.empty [(⟨#[195, 137]⟩ : ByteArray), ⟨#[195, 152]⟩, ⟨#[206, 155]⟩] 2 = ⟨#[206, 155]⟩ := rfl
  have s0 : rdOf ByteArray.empty [(⟨#[195, 169]⟩ : ByteArray), ⟨#[195, 184]⟩, ⟨#[206, 187]⟩] 0 = ⟨#[195, 169]⟩ := rfl
  have s1 : rdOf ByteArray.empty [(⟨#[195, 169]⟩ : ByteArray), ⟨#[195, 184]⟩, ⟨#[206, 187]⟩] 1 = ⟨#[195, 184]⟩ := rfl
  have s2 : rdOf ByteArray.empty [(⟨#[195, 169]⟩ : ByteArray), ⟨#[195, 184]⟩, ⟨#[206, 187]⟩] 2 = ⟨#[206, 187]⟩ := rfl
  have t0 : strOfNums [195, 169] = ⟨#[195, 169]⟩ := rfl
  have t1 : strOfNums [195, 184] = ⟨#[195, 184]⟩ := rfl
  have t2 : strOfNums [206, 187] = ⟨#[206, 187]⟩ := rfl
  have t3 : strOfNums [] = ⟨#[]⟩ := rfl
  simp only [registrarref03_big.f, registrarref03_small.f, Option.bind_some, registrarref03_folded.l0, List.length_cons, List.length_nil, h0, h1, h2, r0, r1, r2, s0, s1, s2, b1]
  match (bytesOf s).drop i with
  | [] => simp [bigD, t3]
  | [c] => simp [bigD, t3]
  | c :: d :: r =>
    simp only [bigD, big]
    by_cases c1 : c = 195
    · subst c1
      by_cases d1 : d = 137
      · subst d1; simp [t0]
      · by_cases d2 : d = 152
        · subst d2; simp [t1]
        · simp [d1, d2, t3]
    · by_cases c2 : c = 206
      · subst c2
        by_cases d1 : d = 155
        · subst d1; simp [t2]
        · simp [d1, t3]
      · simp [c1, c2, t3]
end Go.Proofs.Ytkbnckpcllfikaa.Nam

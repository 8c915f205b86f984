/- Runes: what Go's decoder makes of the bytes of a name. -/
import Derived.Test.YtkbnckpcllfikaaM3
namespace Go.Proofs.Ytkbnckpcllfikaa.Nam
open Go.RowKit Go.Proofs.YtkbnckpcllfikaaW.PrintWords Go.Proofs.YtkbnckpcllfikaaW.PrintLast Go.Proofs.YtkbnckpcllfikaaW.PrintMore Go.Proofs.Ytkbnckpcllfikaa.Num Go.Proofs.Ytkbnckpcllfikaa.Prt
set_option linter.unusedVariables false
set_option linter.unusedSimpArgs false

theorem dec_sum (s : ByteArray) (i : Nat) (hi : i < s.size) :
    ((s.get! i).toNat < 128 ∧ (Utf8.decode s i).1 = (s.get! i).toNat ∧ (Utf8.decode s i).2 = 1) ∨
    (128 ≤ (s.get! i).toNat ∧ i + 1 < s.size ∧ (s.get! i).toNat / 32 = 6 ∧ (s.get! (i + 1)).toNat / 64 = 2 ∧ (Utf8.decode s i).1 = ((s.get! i).toNat % 32) * 64 + (s.get! (i + 1)).toNat % 64 ∧ 128 ≤ ((s.get! i).toNat % 32) * 64 + (s.get! (i + 1)).toNat % 64 ∧ (Utf8.decode s i).2 = 2) ∨
    (128 ≤ (s.get! i).toNat ∧ ((Utf8.decode s i).1 = 65533 ∨ 2048 ≤ (Utf8.decode s i).1) ∧ 1 ≤ (Utf8.decode s i).2 ∧ i + (Utf8.decode s i).2 ≤ s.size ∧ (∀ k, 1 ≤ k → k < (Utf8.decode s i).2 → (s.get! (i + k)).toNat / 64 = 2) ∧ ¬ (i + 1 < s.size ∧ (s.get! i).toNat / 32 = 6 ∧ (s.get! (i + 1)).toNat / 64 = 2 ∧ 128 ≤ ((s.get! i).toNat % 32) * 64 + (s.get! (i + 1)).toNat % 64)) := by
  obtain ⟨f, hf⟩ : ∃ f : Nat → Nat, ∀ k, (s.get! (i + k)).toNat = f k := ⟨fun k => (s.get! (i + k)).toNat, fun _ => rfl⟩
  have h00 : (s.get! i).toNat = f 0 := hf 0
  unfold Utf8.decode
  simp only [hf, h00]
  clear h00 hf
  generalize f 0 = b0
  by_cases h0 : b0 < 128
  · rw [if_pos h0]; exact .inl ⟨h0, rfl, rfl⟩
  · rw [if_neg h0]
    right
    by_cases h1 : (b0 / 32 == 6 && (decide (i + 1 < s.size) && f 1 / 64 == 2)) = true
    · rw [if_pos h1]
      simp only [Bool.and_eq_true, beq_iff_eq, decide_eq_true_eq] at h1
      by_cases h2 : b0 % 32 * 64 + f 1 % 64 ≥ 128
      · rw [if_pos h2]; exact .inl ⟨by omega, h1.2.1, h1.1, h1.2.2, rfl, h2, rfl⟩
      · rw [if_neg h2]; exact .inr ⟨by omega, .inl rfl, Nat.le_refl _, by simp only; omega, fun k hk hk2 => by simp only at hk2; omega, fun h => by omega⟩
    · rw [if_neg h1]
      simp only [Bool.and_eq_true, beq_iff_eq, decide_eq_true_eq] at h1
      right
      have hno : ¬ (i + 1 < s.size ∧ b0 / 32 = 6 ∧ f 1 / 64 = 2 ∧ 128 ≤ b0 % 32 * 64 + f 1 % 64) := fun h => h1 ⟨h.2.1, h.1, h.2.2.1⟩
      have bad : 128 ≤ b0 ∧ ((65533 : Nat) = 65533 ∨ 2048 ≤ (65533 : Nat)) ∧ 1 ≤ 1 ∧ i + 1 ≤ s.size ∧ (∀ k, 1 ≤ k → k < 1 → f k / 64 = 2) ∧ ¬ (i + 1 < s.size ∧ b0 / 32 = 6 ∧ f 1 / 64 = 2 ∧ 128 ≤ b0 % 32 * 64 + f 1 % 64) :=
        ⟨by omega, .inl rfl, Nat.le_refl _, by omega, fun k hk hk2 => by omega, hno⟩
      by_cases h3 : (b0 / 16 == 14 && (decide (i + 1 < s.size) && f 1 / 64 == 2) && (decide (i + 2 < s.size) && f 2 / 64 == 2)) = true
      · rw [if_pos h3]
        simp only [Bool.and_eq_true, beq_iff_eq, decide_eq_true_eq] at h3
        split
        · rename_i h4
          simp only [Bool.and_eq_true, decide_eq_true_eq] at h4
          exact ⟨by omega, .inr h4.1, Nat.succ_le_succ (Nat.zero_le _), by simp only; omega, fun k hk hk2 => by
            simp only at hk2
            rcases (show k = 1 ∨ k = 2 by omega) with rfl | rfl
            · exact h3.1.2.2
            · exact h3.2.2, hno⟩
        · exact bad
      · rw [if_neg h3]
        by_cases h5 : (b0 / 8 == 30 && (decide (i + 1 < s.size) && f 1 / 64 == 2) && (decide (i + 2 < s.size) && f 2 / 64 == 2) && (decide (i + 3 < s.size) && f 3 / 64 == 2)) = true
        · rw [if_pos h5]
          simp only [Bool.and_eq_true, beq_iff_eq, decide_eq_true_eq] at h5
          split
          · rename_i h4
            simp only [Bool.and_eq_true, decide_eq_true_eq] at h4
            exact ⟨by omega, .inr (by omega), Nat.succ_le_succ (Nat.zero_le _), by simp only; omega, fun k hk hk2 => by
              simp only at hk2
              rcases (show k = 1 ∨ k = 2 ∨ k = 3 by omega) with rfl | rfl | rfl
              · exact h5.1.1.2.2
              · exact h5.1.2.2
              · exact h5.2.2, hno⟩
          · exact bad
        · rw [if_neg h5]
          exact bad
def letR (c : Int) : Bool := plainC c || decide (c = 233 ∨ c = 248 ∨ c = 223 ∨ c = 955)
def smallR (c : Int) : Int := if c = 32 ∨ c = 46 ∨ c = 47 then 45 else if c = 201 then 233 else if c = 216 then 248 else if c = 923 then 955 else if letR c then c else if 65 ≤ c ∧ c ≤ 90 then c + 32 else 65533
theorem plain_range {c : Int} (h : plainC c = true) : 45 ≤ c ∧ c ≤ 122 ∧ c ≠ 46 ∧ c ≠ 47 := by
  unfold plainC at h
  simp only [Bool.or_eq_true, decide_eq_true_eq] at h
  omega
theorem two_iff {c d : Int} : two c d = true ↔ (c = 195 ∧ (d = 169 ∨ d = 184 ∨ d = 159)) ∨ (c = 206 ∧ d = 187) := by unfold two; simp
theorem gb (s : ByteArray) (j : Nat) (h : j < s.size) : (bytesOf s).getD j 0 = ((s.get! j).toNat : Int) := by
  unfold bytesOf
  have h2 : j < s.data.size := h
  rw [List.getD_eq_getElem?_getD, List.getElem?_map, Array.getElem?_toList, Array.getElem?_eq_getElem h2]
  have e : s.get! j = s.data[j] := by
    show s.data[j]! = _
    rw [getElem!_pos s.data j h2]
  rw [e]; rfl
theorem skip1 (c : Int) (r : List Int) (h : letD (c :: r) = 0) (hb : bigD (c :: r) = []) (hc : 128 ≤ c) : foldL (c :: r) = foldL r := by
  rw [foldL_step (by simp)]
  have e : stepL (c :: r) = ([], 1) := by
    unfold stepL
    simp only [h, hb, List.getD_cons_zero]
    rw [if_neg (by decide), if_neg (by omega), if_neg (by omega), if_neg (by simp)]
  rw [e]; rfl
theorem skipC (d : Int) (r : List Int) (h1 : 128 ≤ d) (h2 : d < 192) : foldL (d :: r) = foldL r := by
  have hp : ¬ plainC d = true := fun h => by have := plain_range h; omega
  refine skip1 d r ?_ ?_ h1
  · cases r with
    | nil => simp [letD, hp]
    | cons e t =>
      simp only [letD, if_neg hp]
      rw [if_neg (fun h => by rw [two_iff] at h; omega)]
  · cases r with
    | nil => rfl
    | cons e t => simp only [bigD, big]; rw [if_neg (by omega), if_neg (by omega), if_neg (by omega)]
theorem letD_pos1 {c : Int} {r : List Int} (h : plainC c = true) : letD (c :: r) = 1 := by
  cases r with
  | nil => simp [letD, h]
  | cons d t => simp [letD, h]
theorem letD0 {c : Int} {r : List Int} (hp : ¬ plainC c = true) (h1 : c ≠ 195) (h2 : c ≠ 206) : letD (c :: r) = 0 ∧ bigD (c :: r) = [] := by
  cases r with
  | nil => exact ⟨by simp [letD, hp], rfl⟩
  | cons d t =>
    refine ⟨?_, ?_⟩
    · simp only [letD, if_neg hp]
      rw [if_neg (fun h => by rw [two_iff] at h; omega)]
    · simp only [bigD, big]; rw [if_neg (by omega), if_neg (by omega), if_neg (by omega)]
theorem letR_small {r : Int} (h : letR r = true) : smallR r = r := by
  have h0 := h
  unfold letR at h
  simp only [Bool.or_eq_true, decide_eq_true_eq] at h
  unfold smallR
  have hr : r ≠ 32 ∧ r ≠ 46 ∧ r ≠ 47 ∧ r ≠ 201 ∧ r ≠ 216 ∧ r ≠ 923 := by
    rcases h with h | h
    · have := plain_range h; omega
    · omega
  rw [if_neg (by omega), if_neg (by omega), if_neg (by omega), if_neg (by omega), if_pos h0]
/-- What the next rune is, told by the bytes at hand. -/
theorem rune_cases (s : ByteArray) (i : Nat) (hi : i < s.size) (L : List Int) (hL : L = (bytesOf s).drop i) (r : Int) (w : Nat) (hr : r = ((Utf8.decode s i).1 : Int)) (hw : w = (Utf8.decode s i).2) :
    1 ≤ w ∧ i + w ≤ s.size ∧ ((0 < letD L ∧ w = letD L ∧ letR r = true ∧ encR r = L.take w ∧ smallR r = r ∧ ((0 ≤ r ∧ r ≤ 127) ∨ r = 233 ∨ r = 248 ∨ r = 223 ∨ r = 955) ∧ (r ≤ 57 ↔ notFirst (L.getD 0 0) = true)) ∨
      (letD L = 0 ∧ letR r = false ∧ ((smallR r ≠ 65533 ∧ encR (smallR r) = (stepL L).1 ∧ w = (stepL L).2 ∧ ((0 ≤ smallR r ∧ smallR r ≤ 127) ∨ smallR r = 233 ∨ smallR r = 248 ∨ smallR r = 223 ∨ smallR r = 955)) ∨ (smallR r = 65533 ∧ foldL L = foldL (L.drop w))))) := by
  have hlen : (bytesOf s).length = s.size := bytes_length s
  have hc := gb s i hi
  rw [drop_cons _ i (by omega), hc] at hL
  generalize hb0 : (s.get! i).toNat = b0 at *
  have hb : b0 < 256 := by rw [← hb0]; exact UInt8.toNat_lt _
  rcases dec_sum s i hi with ⟨h1, h2, h3⟩ | ⟨h1, h2, h3, h4, h5, h6, h7⟩ | ⟨h1, h2, h3, h4, h5, h6⟩
  · rw [hb0] at h1 h2
    rw [h2] at hr
    rw [h3] at hw
    subst hr; subst hw
    refine ⟨Nat.le_refl _, by omega, ?_⟩
    by_cases hp : plainC (b0 : Int) = true
    · left
      have hl : letR (b0 : Int) = true := by unfold letR; rw [hp]; rfl
      have hpr := plain_range hp
      have e1 : letD L = 1 := by rw [hL]; exact letD_pos1 hp
      refine ⟨by omega, e1.symm, hl, ?_, letR_small hl, .inl ⟨by omega, by omega⟩, ?_⟩
      · unfold encR; rw [if_pos (by omega), hL]; rfl
      · rw [hL, List.getD_cons_zero]; unfold notFirst; simp only [Bool.or_eq_true, decide_eq_true_eq]; omega
    · right
      obtain ⟨e1, e2⟩ := letD0 (r := (bytesOf s).drop (i + 1)) hp (by omega) (by omega)
      rw [← hL] at e1 e2
      have hl : letR (b0 : Int) = false := by
        unfold letR
        have : plainC (b0 : Int) = false := by simpa using hp
        rw [this, Bool.false_or]
        exact decide_eq_false (by omega)
      refine ⟨e1, hl, ?_⟩
      have hg : L.getD 0 0 = (b0 : Int) := by rw [hL]; rfl
      by_cases hs : (b0 : Int) = 32 ∨ (b0 : Int) = 46 ∨ (b0 : Int) = 47
      · left
        have e : smallR (b0 : Int) = 45 := by unfold smallR; rw [if_pos hs]
        rw [e]
        refine ⟨by decide, ?_, ?_, by omega⟩
        · unfold stepL; simp only [e1, hg]; rw [if_neg (by decide), if_neg (by omega), if_pos hs]; rfl
        · unfold stepL; simp only [e1, hg]; rw [if_neg (by decide), if_neg (by omega), if_pos hs]
      · by_cases hu : 65 ≤ (b0 : Int) ∧ (b0 : Int) ≤ 90
        · left
          have e : smallR (b0 : Int) = (b0 : Int) + 32 := by unfold smallR; rw [if_neg hs, if_neg (by omega), if_neg (by omega), if_neg (by omega), if_neg (by rw [hl]; decide), if_pos hu]
          rw [e]
          refine ⟨by omega, ?_, ?_, by omega⟩
          · unfold stepL; simp only [e1, hg]; rw [if_neg (by decide), if_pos hu]; unfold encR; rw [if_pos (by omega)]
          · unfold stepL; simp only [e1, hg]; rw [if_neg (by decide), if_pos hu]
        · right
          have e : smallR (b0 : Int) = 65533 := by unfold smallR; rw [if_neg hs, if_neg (by omega), if_neg (by omega), if_neg (by omega), if_neg (by rw [hl]; decide), if_neg hu]
          refine ⟨e, ?_⟩
          have hne : L ≠ [] := by rw [hL]; simp
          rw [foldL_step hne]
          have e3 : stepL L = ([], 1) := by unfold stepL; simp only [e1, hg, e2]; rw [if_neg (by decide), if_neg hu, if_neg hs, if_neg (by simp)]
          rw [e3]; rfl
  · rw [hb0] at h1 h3 h5 h6
    have hd := gb s (i + 1) h2
    rw [drop_cons _ (i + 1) (by omega), hd] at hL
    generalize hb1 : (s.get! (i + 1)).toNat = b1 at *
    have hbb : b1 < 256 := by rw [← hb1]; exact UInt8.toNat_lt _
    rw [h5] at hr
    rw [h7] at hw
    subst hw
    refine ⟨by omega, by omega, ?_⟩
    have hp : ¬ plainC (b0 : Int) = true := fun h => by have := plain_range h; omega
    have hrp : plainC r = false := by
      cases h : plainC r with
      | false => rfl
      | true => have := plain_range h; omega
    by_cases ht : two (b0 : Int) (b1 : Int) = true
    · left
      have e1 : letD L = 2 := by rw [hL]; simp only [letD, if_neg hp, if_pos ht]
      rw [two_iff] at ht
      have hl : letR r = true := by unfold letR; rw [hrp, Bool.false_or]; exact decide_eq_true (by omega)
      refine ⟨by omega, e1.symm, hl, ?_, letR_small hl, .inr (by omega), ?_⟩
      · unfold encR; rw [if_neg (by omega), hL]
        show _ = [(b0 : Int), (b1 : Int)]
        congr 1
        · omega
        · congr 1; omega
      · rw [hL, List.getD_cons_zero]; unfold notFirst; simp only [Bool.or_eq_true, decide_eq_true_eq]; omega
    · right
      have e1 : letD L = 0 := by rw [hL]; simp only [letD, if_neg hp, if_neg ht]
      have ht' : ¬ (((b0 : Int) = 195 ∧ ((b1 : Int) = 169 ∨ (b1 : Int) = 184 ∨ (b1 : Int) = 159)) ∨ ((b0 : Int) = 206 ∧ (b1 : Int) = 187)) := fun h => ht (two_iff.2 h)
      have hl : letR r = false := by unfold letR; rw [hrp, Bool.false_or]; exact decide_eq_false (by omega)
      refine ⟨e1, hl, ?_⟩
      have hg : L.getD 0 0 = (b0 : Int) := by rw [hL]; rfl
      have step2 : ∀ o, big (b0 : Int) (b1 : Int) = o → o ≠ [] → stepL L = (o, 2) := by
        intro o ho hno
        have e2 : bigD L = o := by rw [hL]; exact ho
        unfold stepL; simp only [e1, hg, e2]; rw [if_neg (by decide), if_neg (by omega), if_neg (by omega), if_pos hno]
      by_cases g1 : r = 201
      · left
        have e : smallR r = 233 := by unfold smallR; rw [if_neg (by omega), if_pos g1]
        have e3 := step2 [195, 169] (by unfold big; rw [if_pos (by omega)]) (by simp)
        rw [e, e3]
        exact ⟨by decide, rfl, rfl, by decide⟩
      · by_cases g2 : r = 216
        · left
          have e : smallR r = 248 := by unfold smallR; rw [if_neg (by omega), if_neg g1, if_pos g2]
          have e3 := step2 [195, 184] (by unfold big; rw [if_neg (by omega), if_pos (by omega)]) (by simp)
          rw [e, e3]
          exact ⟨by decide, rfl, rfl, by decide⟩
        · by_cases g3 : r = 923
          · left
            have e : smallR r = 955 := by unfold smallR; rw [if_neg (by omega), if_neg g1, if_neg g2, if_pos g3]
            have e3 := step2 [206, 187] (by unfold big; rw [if_neg (by omega), if_neg (by omega), if_pos (by omega)]) (by simp)
            rw [e, e3]
            exact ⟨by decide, rfl, rfl, by decide⟩
          · right
            have e : smallR r = 65533 := by unfold smallR; rw [if_neg (by omega), if_neg g1, if_neg g2, if_neg g3, if_neg (by rw [hl]; decide), if_neg (by omega)]
            have e2 : bigD L = [] := by rw [hL]; simp only [bigD, big]; rw [if_neg (by omega), if_neg (by omega), if_neg (by omega)]
            refine ⟨e, ?_⟩
            rw [hL] at e1 e2 ⊢
            rw [skip1 _ _ e1 e2 (by omega), skipC _ _ (by omega) (by omega)]; rfl
  · rw [hb0] at h1 h6
    rw [← hw] at h3 h4 h5
    refine ⟨h3, h4, .inr ?_⟩
    have hp : ¬ plainC (b0 : Int) = true := fun h => by have := plain_range h; omega
    have hrp : plainC r = false := by
      cases h : plainC r with
      | false => rfl
      | true => have := plain_range h; omega
    have hl : letR r = false := by unfold letR; rw [hrp, Bool.false_or]; exact decide_eq_false (by omega)
    have e12 : letD L = 0 ∧ bigD L = [] := by
      rw [hL]
      by_cases hi1 : i + 1 < s.size
      · have hd := gb s (i + 1) hi1
        rw [drop_cons _ (i + 1) (by omega), hd]
        generalize hb1 : (s.get! (i + 1)).toNat = b1 at *
        have hbb : b1 < 256 := by rw [← hb1]; exact UInt8.toNat_lt _
        have hno : ¬ (((b0 : Int) = 195 ∨ (b0 : Int) = 206) ∧ 128 ≤ b1 ∧ b1 < 192) := fun h => h6 ⟨hi1, by omega, by omega, by omega⟩
        refine ⟨?_, ?_⟩
        · simp only [letD, if_neg hp]
          rw [if_neg (fun h => by rw [two_iff] at h; omega)]
        · simp only [bigD, big]; rw [if_neg (by omega), if_neg (by omega), if_neg (by omega)]
      · have : (bytesOf s).drop (i + 1) = [] := List.drop_eq_nil_of_le (by omega)
        rw [this]
        exact ⟨by simp [letD, hp], rfl⟩
    refine ⟨e12.1, hl, .inr ⟨?_, ?_⟩⟩
    · unfold smallR; rw [if_neg (by omega), if_neg (by omega), if_neg (by omega), if_neg (by omega), if_neg (by rw [hl]; decide), if_neg (by omega)]
    · have key : ∀ j, 1 ≤ j → j ≤ w → foldL L = foldL (L.drop j) := by
        intro j
        induction j with
        | zero => intro h; omega
        | succ j ih =>
          intro _ hj
          by_cases hj0 : j = 0
          · subst hj0
            have e1 := e12.1; have e2 := e12.2
            rw [hL] at e1 e2 ⊢
            exact skip1 _ _ e1 e2 (by omega)
          · rw [ih (by omega) (by omega)]
            have hcj := h5 j (by omega) (by omega)
            have hij : i + j < s.size := by omega
            have hgj := gb s (i + j) hij
            have e : L.drop j = (bytesOf s).drop (i + j) := by rw [hL, ← hc, ← drop_cons _ i (by omega), List.drop_drop]
            have e' : L.drop (j + 1) = (bytesOf s).drop (i + j + 1) := by rw [hL, ← hc, ← drop_cons _ i (by omega), List.drop_drop]; rfl
            have hbb : (s.get! (i + j)).toNat < 256 := UInt8.toNat_lt _
            rw [e, e', drop_cons _ (i + j) (by omega), hgj]
            exact skipC _ _ (by omega) (by omega)
      exact key w h3 (Nat.le_refl _)
end Go.Proofs.Ytkbnckpcllfikaa.Nam

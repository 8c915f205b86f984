/- Numbers and texts as bytes: the plain functions (no program in sight). -/
import Derived.Laws.BitsAllLaws
import Derived.Laws.BitsLemmas
import Derived.RowKit
namespace Go.Proofs.Ytkbnckpcllfikaa.Num

/-- A number from 0 on, seven bits at a time. -/
def encN (u : Nat) : List Int := if h : u < 128 then [(u : Int)] else ((u % 128 + 128 : Nat) : Int) :: encN (u / 128)
termination_by u
decreasing_by omega
def zz (x : Int) : Nat := if x < 0 then (2 * (-(x + 1)) + 1).toNat else (2 * x).toNat
def unzz (u : Nat) : Int := if u % 2 = 1 then -((u / 2 : Nat) : Int) - 1 else ((u / 2 : Nat) : Int)
/-- A number's bytes. -/
def enc (x : Int) : List Int := encN (zz x)
/-- A text's bytes. -/
def encT (s : List Int) : List Int := enc s.length ++ s
/-- From digit i on. -/
def decU : Nat → List Int → Option (Nat × List Int)
  | _, [] => none
  | i, c :: r => if 10 ≤ i then none else if 128 ≤ c then (decU (i + 1) r).bind fun q => some (q.1 * 128 + (c - 128).toNat, q.2) else if c = 0 ∧ 0 < i ∨ i = 9 ∧ 1 < c then none else some (c.toNat, r)
def dec (b : List Int) : Option (Int × List Int) := (decU 0 b).bind fun q => some (unzz q.1, q.2)
def decT (b : List Int) : Option (List Int × List Int) := (dec b).bind fun q => if q.1 < 0 ∨ (q.2.length : Int) < q.1 then none else some (q.2.take q.1.toNat, q.2.drop q.1.toNat)
def isBytes (b : List Int) : Prop := ∀ c ∈ b, 0 ≤ c ∧ c < 256

theorem encN_lt {u : Nat} (h : u < 128) : encN u = [(u : Int)] := by rw [encN, dif_pos h]
theorem encN_ge {u : Nat} (h : 128 ≤ u) : encN u = ((u % 128 + 128 : Nat) : Int) :: encN (u / 128) := by rw [encN, dif_neg (by omega)]
theorem encN_pos (u : Nat) : 1 ≤ (encN u).length := by
  by_cases h : u < 128
  · rw [encN_lt h]; simp
  · rw [encN_ge (by omega)]; simp
theorem encN_len (n : Nat) : ∀ u, u < 128 ^ (n + 1) → (encN u).length ≤ n + 1 := by
  induction n with
  | zero => intro u hu; rw [encN_lt (by simpa using hu)]; simp
  | succ n ih =>
    intro u hu
    by_cases h : u < 128
    · rw [encN_lt h]; simp
    · rw [encN_ge (by omega)]
      have := ih (u / 128) (by rw [Nat.div_lt_iff_lt_mul (by decide)]; rw [Nat.pow_succ] at hu; exact hu)
      simp only [List.length_cons]; omega
theorem encN_len10 {u : Nat} (h : u < 18446744073709551616) : (encN u).length ≤ 10 := encN_len 9 u (Nat.lt_of_lt_of_le h (by decide))
theorem encN_mono : ∀ (v u : Nat), u ≤ v → (encN u).length ≤ (encN v).length := by
  intro v
  induction v using Nat.strongRecOn with
  | ind v ih =>
    intro u h
    by_cases hu : u < 128
    · rw [encN_lt hu]; exact encN_pos v
    · rw [encN_ge (u := u) (by omega), encN_ge (u := v) (by omega)]
      have := ih (v / 128) (by omega) (u / 128) (by omega)
      simp only [List.length_cons]; omega
theorem encN_bytes : ∀ u, isBytes (encN u) := by
  intro u
  induction u using Nat.strongRecOn with
  | ind u ih =>
    by_cases hu : u < 128
    · rw [encN_lt hu]; intro c hc; rw [List.mem_singleton.1 hc]; omega
    · rw [encN_ge (by omega)]
      intro c hc
      rcases List.mem_cons.1 hc with rfl | hc
      · omega
      · exact ih _ (by omega) c hc

theorem decU_enc : ∀ (u i : Nat) (r : List Int), i < 10 → u < 2 * 128 ^ (9 - i) → (i = 0 ∨ 0 < u) → decU i (encN u ++ r) = some (u, r) := by
  intro u
  induction u using Nat.strongRecOn with
  | ind u ih =>
    intro i r hi hu h0
    by_cases h : u < 128
    · rw [encN_lt h, List.singleton_append, decU, if_neg (by omega), if_neg (by omega), if_neg ?_]
      · simp
      · rintro (⟨h1, h2⟩ | ⟨rfl, h2⟩)
        · omega
        · simp at hu; omega
    · have hi9 : i ≤ 8 := by
        rcases Nat.lt_or_ge i 9 with h1 | h1
        · omega
        · obtain rfl : i = 9 := by omega
          simp at hu; omega
      rw [encN_ge (by omega), List.cons_append, decU, if_neg (by omega), if_pos (by omega), ih (u / 128) (by omega) (i + 1) r (by omega) ?_ (.inr (by omega))]
      · simp only [Option.bind_some, Option.some.injEq, Prod.mk.injEq, and_true]; omega
      · have e : 9 - i = (9 - (i + 1)) + 1 := by omega
        rw [e, Nat.pow_succ] at hu
        omega
theorem decU_sound : ∀ (b : List Int) (i u : Nat) (r : List Int), isBytes b → decU i b = some (u, r) → b = encN u ++ r ∧ i < 10 ∧ u < 2 * 128 ^ (9 - i) ∧ (i = 0 ∨ 0 < u) := by
  intro b
  induction b with
  | nil => intro i u r _ h; simp [decU] at h
  | cons c b ih =>
    intro i u r hb h
    have hc := hb c List.mem_cons_self
    have hb' : isBytes b := fun x hx => hb x (List.mem_cons_of_mem _ hx)
    rw [decU] at h
    by_cases h1 : 10 ≤ i
    · rw [if_pos h1] at h; simp at h
    rw [if_neg h1] at h
    by_cases h2 : 128 ≤ c
    · rw [if_pos h2] at h
      obtain ⟨⟨v, r'⟩, hq, he⟩ := Option.bind_eq_some_iff.1 h
      simp only [Option.some.injEq, Prod.mk.injEq] at he
      obtain ⟨rfl, rfl⟩ := he
      obtain ⟨g1, g2, g3, g4⟩ := ih (i + 1) v r' hb' hq
      have hv : 0 < v := by omega
      have hv2 : v < 2 * 128 ^ (9 - (i + 1)) := g3
      have e : 9 - i = (9 - (i + 1)) + 1 := by omega
      refine ⟨?_, by omega, ?_, .inr (by omega)⟩
      · rw [encN_ge (by omega), g1]
        have h3 : (v * 128 + (c - 128).toNat) / 128 = v := by omega
        have h4 : (((v * 128 + (c - 128).toNat) % 128 + 128 : Nat) : Int) = c := by omega
        rw [h3, h4]; simp
      · rw [e, Nat.pow_succ]; omega
    · rw [if_neg h2] at h
      by_cases h3 : c = 0 ∧ 0 < i ∨ i = 9 ∧ 1 < c
      · rw [if_pos h3] at h; simp at h
      · rw [if_neg h3] at h
        simp only [Option.some.injEq, Prod.mk.injEq] at h
        obtain ⟨rfl, rfl⟩ := h
        refine ⟨?_, by omega, ?_, by omega⟩
        · rw [encN_lt (by omega)]; simp; omega
        · rcases Nat.lt_or_ge i 9 with h5 | h5
          · have e : 9 - i = (8 - i) + 1 := by omega
            have hp : 1 ≤ 128 ^ (8 - i) := Nat.pos_of_ne_zero (by simp)
            rw [e, Nat.pow_succ]; omega
          · obtain rfl : i = 9 := by omega
            simp; omega
theorem zz_lt {x : Int} (h1 : -9223372036854775808 ≤ x) (h2 : x ≤ 9223372036854775807) : zz x < 18446744073709551616 := by unfold zz; split <;> omega
theorem unzz_zz (x : Int) : unzz (zz x) = x := by
  unfold unzz zz
  split <;> split <;> omega
theorem zz_unzz (u : Nat) : zz (unzz u) = u := by
  unfold unzz zz
  split <;> split <;> omega
theorem zz_inj {x y : Int} (h : zz x = zz y) : x = y := by rw [← unzz_zz x, ← unzz_zz y, h]
theorem unzz_range {u : Nat} (h : u < 18446744073709551616) : -9223372036854775808 ≤ unzz u ∧ unzz u ≤ 9223372036854775807 := by unfold unzz; split <;> omega
def i64 (x : Int) : Prop := -9223372036854775808 ≤ x ∧ x ≤ 9223372036854775807

theorem enc_len {x : Int} (h : i64 x) : (enc x).length ≤ 10 := encN_len10 (zz_lt h.1 h.2)
theorem enc_pos (x : Int) : 1 ≤ (enc x).length := encN_pos _
theorem enc_bytes (x : Int) : isBytes (enc x) := encN_bytes _
theorem dec_enc {x : Int} (h : i64 x) (r : List Int) : dec (enc x ++ r) = some (x, r) := by
  unfold dec enc
  rw [decU_enc (zz x) 0 r (by omega) (Nat.lt_of_lt_of_le (zz_lt h.1 h.2) (by decide)) (.inl rfl)]
  simp [unzz_zz]
theorem dec_sound {b r : List Int} {x : Int} (hb : isBytes b) (h : dec b = some (x, r)) : b = enc x ++ r ∧ i64 x := by
  unfold dec at h
  obtain ⟨⟨u, r'⟩, hq, he⟩ := Option.bind_eq_some_iff.1 h
  simp only [Option.some.injEq, Prod.mk.injEq] at he
  obtain ⟨rfl, rfl⟩ := he
  obtain ⟨g1, _, g3, _⟩ := decU_sound b 0 u r' hb hq
  refine ⟨by unfold enc; rw [zz_unzz]; exact g1, unzz_range (Nat.lt_of_lt_of_le g3 (by decide))⟩
theorem isBytes_append {a b : List Int} : isBytes (a ++ b) ↔ isBytes a ∧ isBytes b := by
  unfold isBytes
  constructor
  · exact fun h => ⟨fun c hc => h c (List.mem_append_left _ hc), fun c hc => h c (List.mem_append_right _ hc)⟩
  · rintro ⟨h1, h2⟩ c hc
    rcases List.mem_append.1 hc with hc | hc
    · exact h1 c hc
    · exact h2 c hc
theorem isBytes_take {a : List Int} (h : isBytes a) (n : Nat) : isBytes (a.take n) := fun c hc => h c (List.mem_of_mem_take hc)
theorem isBytes_drop {a : List Int} (h : isBytes a) (n : Nat) : isBytes (a.drop n) := fun c hc => h c (List.mem_of_mem_drop hc)
theorem dec_none_nil : dec [] = none := rfl
/-- No number's bytes begin another one's. -/
theorem dec_cut {x : Int} (h : i64 x) {n : Nat} (hn : n < (enc x).length) : dec ((enc x).take n) = none := by
  cases hd : dec ((enc x).take n) with
  | none => rfl
  | some q =>
    obtain ⟨y, r⟩ := q
    obtain ⟨g1, g2⟩ := dec_sound (isBytes_take (enc_bytes x) n) hd
    have h1 : enc x = enc y ++ (r ++ (enc x).drop n) := by rw [← List.append_assoc, ← g1, List.take_append_drop]
    have h2 := dec_enc h []
    rw [List.append_nil, h1, dec_enc g2] at h2
    simp only [Option.some.injEq, Prod.mk.injEq, List.append_eq_nil_iff, List.drop_eq_nil_iff] at h2
    omega
theorem enc_inj {x y : Int} (hx : i64 x) (hy : i64 y) (h : enc x = enc y) : x = y := by
  have h1 := dec_enc hx []
  rw [h, dec_enc hy] at h1
  simp at h1
  exact h1.symm
theorem enc_mono {x y : Int} (h0 : 0 ≤ x) (h : x ≤ y) : (enc x).length ≤ (enc y).length := by
  refine encN_mono _ _ ?_
  unfold zz
  rw [if_neg (by omega), if_neg (by omega)]; omega
theorem decT_encT {s : List Int} (hs : s.length ≤ 9223372036854775807) (r : List Int) : decT (encT s ++ r) = some (s, r) := by
  unfold decT encT
  rw [List.append_assoc, dec_enc ⟨by omega, by omega⟩]
  simp only [Option.bind_some]
  rw [if_neg (by simp; omega)]
  simp
theorem decT_sound {b s r : List Int} (hb : isBytes b) (h : decT b = some (s, r)) : b = encT s ++ r ∧ s.length ≤ 9223372036854775807 := by
  unfold decT at h
  obtain ⟨⟨n, r'⟩, hq, he⟩ := Option.bind_eq_some_iff.1 h
  obtain ⟨g1, g2, g3⟩ := dec_sound hb hq
  simp only at he
  by_cases h1 : n < 0 ∨ (r'.length : Int) < n
  · rw [if_pos h1] at he; simp at he
  · rw [if_neg h1] at he
    simp only [Option.some.injEq, Prod.mk.injEq] at he
    obtain ⟨rfl, rfl⟩ := he
    have hl : (r'.take n.toNat).length = n.toNat := by rw [List.length_take]; omega
    refine ⟨?_, by omega⟩
    unfold encT
    rw [hl, List.append_assoc, List.take_append_drop, g1]
    congr 2; omega

/-! What the code's own reckoning comes to. -/
theorem xor_ones (a : Nat) (h : a < 18446744073709551616) : a ^^^ 18446744073709551615 = 18446744073709551615 - a := by
  have h1 : 18446744073709551615 = 2 ^ 64 - 1 := by decide
  apply Nat.eq_of_testBit_eq
  intro i
  rw [Nat.testBit_xor, h1, Nat.testBit_two_pow_sub_one, show 2 ^ 64 - 1 - a = 2 ^ 64 - (a + 1) from by omega, Nat.testBit_two_pow_sub_succ (by simpa using h)]
  by_cases hi : i < 64
  · simp [hi]
  · have : a.testBit i = false := Nat.testBit_lt_two_pow (Nat.lt_of_lt_of_le h (by
      have := Nat.pow_le_pow_right (n := 2) (by decide) (show 64 ≤ i by omega)
      simpa using this))
    simp [hi, this]
theorem zz_code {a : Int} (h : i64 a) : bits BinOp.xor .u64 (IntKind.u64.wrap (IntKind.u64.wrap a * 2)) (IntKind.u64.wrap (a / 9223372036854775808)) = (zz a : Int) := by
  obtain ⟨h1, h2⟩ := h
  unfold zz
  by_cases hn : a < 0
  · have e1 : IntKind.u64.wrap (IntKind.u64.wrap a * 2) = ((2 * (a + 9223372036854775808)).toNat : Int) := by rw [IntKind.wrap_u64, IntKind.wrap_u64]; omega
    have e2 : IntKind.u64.wrap (a / 9223372036854775808) = ((18446744073709551615 : Nat) : Int) := by rw [IntKind.wrap_u64]; omega
    rw [e1, e2, u64_xor_nat _ _ (by omega) (by omega), xor_ones _ (by omega), if_pos hn]
    omega
  · have e1 : IntKind.u64.wrap (IntKind.u64.wrap a * 2) = ((2 * a).toNat : Int) := by rw [IntKind.wrap_u64, IntKind.wrap_u64]; omega
    have e2 : IntKind.u64.wrap (a / 9223372036854775808) = ((0 : Nat) : Int) := by rw [IntKind.wrap_u64]; omega
    rw [e1, e2, u64_xor_nat _ _ (by omega) (by omega), if_neg hn]
    simp
theorem or_128 (u : Nat) : bits BinOp.or .u8 ((u : Int) % 256) 128 = ((u % 128 + 128 : Nat) : Int) := by
  have e : ((u : Int) % 256) = ((u % 256 : Nat) : Int) := by omega
  have e2 : (128 : Int) = ((128 : Nat) : Int) := rfl
  rw [e, e2, u8_or_nat _ _ (by omega) (by decide)]
  have h : ∀ n : Nat, n < 256 → n ||| 128 = n % 128 + 128 := by decide +kernel
  rw [h _ (by omega)]
  omega

/-! The same, told as the loops go. -/
def valU : List Int → Nat
  | [] => 0
  | c :: r => (c % 128).toNat + 128 * valU r
theorem valU_snoc (l : List Int) (c : Int) : valU (l ++ [c]) = valU l + 128 ^ l.length * (c % 128).toNat := by
  induction l with
  | nil => simp [valU]
  | cons d l ih => simp only [List.cons_append, valU, ih, List.length_cons, Nat.pow_succ]; rw [Nat.mul_add, Nat.add_assoc]; congr 2; rw [← Nat.mul_assoc, Nat.mul_comm 128]
theorem take_snoc (l : List Int) (i : Nat) (h : i < l.length) : l.take (i + 1) = l.take i ++ [l.getD i 0] := by
  rw [List.take_succ_eq_append_getElem h, List.getD_eq_getElem?_getD, List.getElem?_eq_getElem h]; rfl
theorem valU_take (l : List Int) (i : Nat) (h : i < l.length) : valU (l.take (i + 1)) = valU (l.take i) + 128 ^ i * (l.getD i 0 % 128).toNat := by
  rw [take_snoc l i h, valU_snoc, List.length_take, Nat.min_eq_left (by omega)]
theorem valU_lt (l : List Int) : valU l < 128 ^ l.length := by
  induction l with
  | nil => simp [valU]
  | cons c l ih => simp only [valU, List.length_cons, Nat.pow_succ]; omega
theorem valU_take_lt (l : List Int) (i : Nat) (h : i ≤ l.length) : valU (l.take i) < 128 ^ i := by
  have := valU_lt (l.take i)
  rwa [List.length_take, Nat.min_eq_left h] at this
/-- All of the first i bytes say that there is more. -/
def allMore (l : List Int) (i : Nat) : Prop := ∀ j, j < i → 128 ≤ l.getD j 0
theorem allMore_zero (l : List Int) : allMore l 0 := fun j hj => by omega
theorem allMore_succ {l : List Int} {i : Nat} (h : allMore l i) (hi : 128 ≤ l.getD i 0) : allMore l (i + 1) := fun j hj => by
  rcases Nat.lt_or_ge j i with h1 | h1
  · exact h j h1
  · obtain rfl : j = i := by omega
    exact hi
theorem allMore_tail {c : Int} {l : List Int} {i : Nat} (h : allMore (c :: l) (i + 1)) : 128 ≤ c ∧ allMore l i :=
  ⟨h 0 (by omega), fun j hj => by have := h (j + 1) (by omega); simpa using this⟩
theorem decU_skip : ∀ (i k : Nat) (l : List Int), isBytes l → allMore l i → i ≤ l.length → k + i ≤ 10 →
    decU k l = (decU (k + i) (l.drop i)).bind fun q => some (valU (l.take i) + 128 ^ i * q.1, q.2) := by
  intro i
  induction i with
  | zero => intro k l _ _ _ _; simp [valU]; cases decU k l <;> rfl
  | succ i ih =>
    intro k l hb hm hl hk
    cases l with
    | nil => simp at hl
    | cons c l =>
      obtain ⟨h1, h2⟩ := allMore_tail hm
      have hc := hb c List.mem_cons_self
      rw [decU, if_neg (by omega), if_pos h1, ih (k + 1) l (fun x hx => hb x (List.mem_cons_of_mem _ hx)) h2 (by simpa using hl) (by omega)]
      rw [show k + 1 + i = k + (i + 1) by omega, List.drop_succ_cons, List.take_succ_cons]
      cases decU (k + (i + 1)) (l.drop i) with
      | none => rfl
      | some q =>
        simp only [Option.bind_some, Option.some.injEq, Prod.mk.injEq, and_true, valU]
        have h3 : (c % 128).toNat = (c - 128).toNat := by omega
        rw [h3, Nat.pow_succ, Nat.add_mul, Nat.mul_comm (valU _) 128, Nat.mul_right_comm]
        omega
theorem dec_hit {l : List Int} {i : Nat} (hb : isBytes l) (hm : allMore l i) (hi : i < l.length) (h10 : i < 10) (hc : l.getD i 0 < 128) (h0 : ¬ (l.getD i 0 = 0 ∧ 0 < i)) (h9 : ¬ (i = 9 ∧ 1 < l.getD i 0)) :
    dec l = some (unzz (valU (l.take (i + 1))), l.drop (i + 1)) := by
  have hd : l.drop i = l.getD i 0 :: l.drop (i + 1) := by
    rw [List.drop_eq_getElem_cons hi, List.getD_eq_getElem?_getD, List.getElem?_eq_getElem hi]; rfl
  have hr := hb _ (List.getElem_mem hi)
  have hg : l.getD i 0 = l[i] := by rw [List.getD_eq_getElem?_getD, List.getElem?_eq_getElem hi]; rfl
  unfold dec
  rw [decU_skip i 0 l hb hm (by omega) (by omega), hd, decU, if_neg (by omega), if_neg (by omega), if_neg (by omega), valU_take l i hi]
  simp only [Option.bind_some]
  have h3 : (l.getD i 0).toNat = (l.getD i 0 % 128).toNat := by omega
  rw [h3]
theorem dec_end {l : List Int} {i : Nat} (hb : isBytes l) (hm : allMore l i) (hi : i ≤ l.length) (h10 : i ≤ 10) (he : i = 10 ∨ i = l.length) : dec l = none := by
  unfold dec
  rw [decU_skip i 0 l hb hm hi (by omega)]
  have h : decU (0 + i) (l.drop i) = none := by
    rcases he with rfl | rfl
    · cases l.drop 10 with
      | nil => rfl
      | cons c r => rw [decU, if_pos (by omega)]
    · rw [List.drop_length]; rfl
  rw [h]; rfl
theorem dec_bad {l : List Int} {i : Nat} (hb : isBytes l) (hm : allMore l i) (hi : i < l.length) (h10 : i < 10) (hc : l.getD i 0 < 128) (h : (l.getD i 0 = 0 ∧ 0 < i) ∨ (i = 9 ∧ 1 < l.getD i 0)) : dec l = none := by
  have hd : l.drop i = l.getD i 0 :: l.drop (i + 1) := by
    rw [List.drop_eq_getElem_cons hi, List.getD_eq_getElem?_getD, List.getElem?_eq_getElem hi]; rfl
  unfold dec
  rw [decU_skip i 0 l hb hm (by omega) (by omega), hd, decU, if_neg (by omega), if_neg (by omega), if_pos (by omega)]
  rfl
/-- How many bytes the number at the beginning has; 0: there is none. -/
def lenD (l : List Int) : Nat := match dec l with
  | none => 0
  | some q => l.length - q.2.length
theorem getD_bytes {l : List Int} (hb : isBytes l) (i : Nat) : 0 ≤ l.getD i 0 ∧ l.getD i 0 < 256 := by
  rw [List.getD_eq_getElem?_getD]
  rcases Nat.lt_or_ge i l.length with h | h
  · rw [List.getElem?_eq_getElem h]; exact hb _ (List.getElem_mem h)
  · rw [List.getElem?_eq_none h]; simp
theorem lenD_hit {l : List Int} {i : Nat} (hb : isBytes l) (hm : allMore l i) (hi : i < l.length) (h10 : i < 10) (hc : l.getD i 0 < 128) (h0 : ¬ (l.getD i 0 = 0 ∧ 0 < i)) (h9 : ¬ (i = 9 ∧ 1 < l.getD i 0)) : (lenD l : Int) = (i : Int) + 1 := by
  unfold lenD; rw [dec_hit hb hm hi h10 hc h0 h9]; simp only [List.length_drop]; omega
theorem lenD_bad {l : List Int} {i : Nat} (hb : isBytes l) (hm : allMore l i) (hi : i < l.length) (h10 : i < 10) (hc : l.getD i 0 < 128) (h : (l.getD i 0 = 0 ∧ 0 < i) ∨ (i = 9 ∧ 1 < l.getD i 0)) : (lenD l : Int) = 0 := by
  unfold lenD; rw [dec_bad hb hm hi h10 hc h]; rfl
theorem lenD_end {l : List Int} {i : Nat} (hb : isBytes l) (hm : allMore l i) (hi : i ≤ l.length) (h10 : i ≤ 10) (he : i = 10 ∨ i = l.length) : (lenD l : Int) = 0 := by
  unfold lenD; rw [dec_end hb hm hi h10 he]; rfl
theorem andNot_128 {c : Int} (h0 : 0 ≤ c) (h1 : c < 256) : bits BinOp.andNot .u8 c 128 = c % 128 := by
  have e : c = (c.toNat : Int) := by omega
  rw [e, show (128 : Int) = ((128 : Nat) : Int) from rfl, u8_andNot_nat _ _ (by omega) (by decide)]
  have h : ∀ n : Nat, n < 256 → n &&& (255 - 128) = n % 128 := by decide +kernel
  rw [h _ (by omega)]
  omega
theorem or_digit' (u c i : Nat) (hu : u < 128 ^ i) (hp : c * 2 ^ (7 * i) < 18446744073709551616) (hi : i ≤ 9) : bits BinOp.or .u64 (u : Int) ((c * 2 ^ (7 * i) : Nat) : Int) = ((u + 128 ^ i * c : Nat) : Int) := by
  have e : 128 ^ i = 2 ^ (7 * i) := by rw [Nat.pow_mul]
  have hu2 : u < 18446744073709551616 := by
    have h1 : 128 ^ i ≤ 128 ^ 9 := Nat.pow_le_pow_right (by decide) hi
    omega
  rw [u64_or_nat _ _ hu2 hp, e, Nat.or_comm, Nat.mul_comm c, ← Nat.two_pow_add_eq_or_of_lt (by rw [← e]; exact hu)]
  omega
theorem or_step {u i : Nat} {d : Int} (hu : u < 18446744073709551616) (h0 : 0 ≤ d) (h1 : d < 256) :
    ∃ u' : Nat, bits BinOp.or .u64 (u : Int) (IntKind.u64.wrap (IntKind.u64.wrap (bits BinOp.andNot .u8 d 128) * 2 ^ (7 * i))) = (u' : Int) ∧ u' < 18446744073709551616 ∧
      (u < 128 ^ i → (i ≤ 8 ∨ i = 9 ∧ d ≤ 1) → u' = u + 128 ^ i * (d % 128).toNat) := by
  rw [andNot_128 h0 h1]
  have e1 : IntKind.u64.wrap (d % 128) = (((d % 128).toNat : Nat) : Int) := by rw [IntKind.wrap_u64]; omega
  rw [e1]
  obtain ⟨c, hc⟩ : ∃ c, c = (d % 128).toNat := ⟨_, rfl⟩
  rw [← hc]
  have e2 : ((c : Int) * 2 ^ (7 * i)) = ((c * 2 ^ (7 * i) : Nat) : Int) := by rw [Int.natCast_mul, Int.natCast_pow]; rfl
  rw [e2]
  have e3 : IntKind.u64.wrap ((c * 2 ^ (7 * i) : Nat) : Int) = ((c * 2 ^ (7 * i) % 18446744073709551616 : Nat) : Int) := by rw [IntKind.wrap_u64]; omega
  rw [e3]
  refine ⟨u ||| (c * 2 ^ (7 * i) % 18446744073709551616), u64_or_nat _ _ hu (Nat.mod_lt _ (by decide)), Nat.or_lt_two_pow (n := 64) hu (Nat.mod_lt _ (by decide)), fun g1 g2 => ?_⟩
  have hp : c * 2 ^ (7 * i) < 18446744073709551616 := by
    rcases g2 with g2 | ⟨rfl, g2⟩
    · have h1 : 2 ^ (7 * i) ≤ 2 ^ 56 := Nat.pow_le_pow_right (by decide) (by omega)
      have h2 : c * 2 ^ (7 * i) ≤ 127 * 2 ^ 56 := Nat.mul_le_mul (by omega) h1
      omega
    · have h3 : c ≤ 1 := by omega
      have h2 : c * 2 ^ (7 * 9) ≤ 1 * 2 ^ (7 * 9) := Nat.mul_le_mul h3 (Nat.le_refl _)
      omega
  have h4 := or_digit' u c i g1 hp (by omega)
  rw [u64_or_nat _ _ hu hp] at h4
  rw [Nat.mod_eq_of_lt hp]
  omega
theorem xor_i64_zero (n : Nat) (h : n < 9223372036854775808) : bits BinOp.xor .i64 (n : Int) 0 = (n : Int) := by
  show IntKind.i64.wrap ((BitVec.ofInt 64 (n : Int) ^^^ BitVec.ofInt 64 0).toNat : Int) = _
  have h1 : (BitVec.ofInt 64 (n : Int)).toNat = n := by
    rw [BitVec.ofInt_natCast, BitVec.toNat_ofNat]; exact Nat.mod_eq_of_lt (by omega)
  have h2 : (BitVec.ofInt 64 0).toNat = 0 := by rfl
  rw [BitVec.toNat_xor, h1, h2, Nat.xor_zero, IntKind.wrap_i64]
  omega
theorem xor_i64_ones (n : Nat) (h : n < 9223372036854775808) : bits BinOp.xor .i64 (n : Int) (-1) = -(n : Int) - 1 := by
  show IntKind.i64.wrap ((BitVec.ofInt 64 (n : Int) ^^^ BitVec.ofInt 64 (-1)).toNat : Int) = _
  have h1 : (BitVec.ofInt 64 (n : Int)).toNat = n := by
    rw [BitVec.ofInt_natCast, BitVec.toNat_ofNat]; exact Nat.mod_eq_of_lt (by omega)
  have h2 : (BitVec.ofInt 64 (-1)).toNat = 18446744073709551615 := by rfl
  rw [BitVec.toNat_xor, h1, h2, xor_ones _ (by omega), IntKind.wrap_i64]
  omega
theorem unzz_code (u : Nat) (h : u < 18446744073709551616) : bits BinOp.xor .i64 ((u : Int) / 2) (Go.RowKit.wrap64 (-Go.RowKit.wrap64 (bits BinOp.and .u64 (u : Int) 1))) = unzz u := by
  have e0 : bits BinOp.and .u64 (u : Int) 1 = ((u % 2 : Nat) : Int) := by
    rw [show (1 : Int) = ((1 : Nat) : Int) from rfl, u64_and_nat _ _ h (by decide), Nat.and_one_is_mod]
  have e1 : (u : Int) / 2 = ((u / 2 : Nat) : Int) := by omega
  rw [e0, e1]
  unfold unzz
  rcases Nat.mod_two_eq_zero_or_one u with h0 | h0
  · rw [h0, if_neg (by omega)]
    have e2 : Go.RowKit.wrap64 (-Go.RowKit.wrap64 ((0 : Nat) : Int)) = 0 := by decide
    rw [e2, xor_i64_zero _ (by omega)]
  · rw [h0, if_pos rfl]
    have e2 : Go.RowKit.wrap64 (-Go.RowKit.wrap64 ((1 : Nat) : Int)) = -1 := by decide
    rw [e2, xor_i64_ones _ (by omega)]
theorem valU_encN : ∀ u, valU (encN u) = u := by
  intro u
  induction u using Nat.strongRecOn with
  | ind u ih =>
    by_cases h : u < 128
    · rw [encN_lt h]; simp only [valU]; omega
    · rw [encN_ge (by omega)]; simp only [valU]; rw [ih (u / 128) (by omega)]; omega
theorem dec_len {l : List Int} (hb : isBytes l) (h : lenD l ≠ 0) : dec l = some (unzz (valU (l.take (lenD l))), l.drop (lenD l)) ∧ lenD l ≤ l.length ∧ valU (l.take (lenD l)) < 18446744073709551616 := by
  unfold lenD at *
  cases hd : dec l with
  | none => rw [hd] at h; simp at h
  | some q =>
    obtain ⟨x, r⟩ := q
    obtain ⟨h1, h2⟩ := dec_sound hb hd
    simp only
    have hl : l.length - r.length = (enc x).length := by rw [h1, List.length_append]; omega
    have ht : l.take (enc x).length = enc x := by
      have : (enc x ++ r).take (enc x).length = enc x := List.take_left
      rwa [← h1] at this
    have hdr : l.drop (enc x).length = r := by
      have : (enc x ++ r).drop (enc x).length = r := List.drop_left
      rwa [← h1] at this
    rw [hl, ht, hdr]
    refine ⟨?_, by have := congrArg List.length h1; rw [List.length_append] at this; omega, ?_⟩
    · unfold enc; rw [valU_encN, unzz_zz]
    · unfold enc; rw [valU_encN]; exact zz_lt h2.1 h2.2
theorem dec_len0 {l : List Int} (hb : isBytes l) (h : lenD l = 0) : dec l = none := by
  cases hd : dec l with
  | none => rfl
  | some q =>
    obtain ⟨x, r⟩ := q
    obtain ⟨h1, h2⟩ := dec_sound hb hd
    unfold lenD at h
    rw [hd] at h
    have := congrArg List.length h1
    rw [List.length_append] at this
    have := enc_pos x
    simp only at h
    omega
theorem valU_drop_le (l : List Int) (k : Nat) : valU (l.drop k) ≤ valU l := by
  induction l generalizing k with
  | nil => simp
  | cons c l ih =>
    cases k with
    | zero => simp
    | succ k => simp only [List.drop_succ_cons, valU]; have := ih k; omega
theorem valU_drop_step (l : List Int) (k : Nat) (h : k < l.length) : valU (l.drop k) = (l.getD k 0 % 128).toNat + 128 * valU (l.drop (k + 1)) := by
  rw [List.drop_eq_getElem_cons h, valU, List.getD_eq_getElem?_getD, List.getElem?_eq_getElem h]; rfl
end Go.Proofs.Ytkbnckpcllfikaa.Num

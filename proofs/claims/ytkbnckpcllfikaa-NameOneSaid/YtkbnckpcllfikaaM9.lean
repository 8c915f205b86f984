/- Tags: strings.Cut at a colon, Parts, MayTag, and the reference's. -/
import Derived.Test.YtkbnckpcllfikaaM8
namespace Go.Proofs.Ytkbnckpcllfikaa.Nam
open Go.RowKit Go.Proofs.YtkbnckpcllfikaaW.PrintWords Go.Proofs.YtkbnckpcllfikaaW.PrintLast Go.Proofs.YtkbnckpcllfikaaW.PrintMore Go.Proofs.Ytkbnckpcllfikaa.Num Go.Proofs.Ytkbnckpcllfikaa.Prt
set_option linter.unusedVariables false
set_option linter.unusedSimpArgs false
theorem letters_no58 : ∀ (n : Nat) (l : List Int), l.length ≤ n → lettersOnly l = true → (58 : Int) ∉ l := by
  intro n
  induction n with
  | zero =>
    intro l h _
    obtain rfl : l = [] := List.length_eq_zero_iff.1 (by omega)
    simp
  | succ n ih =>
    intro l hn ha
    match l, ha, hn with
    | [], _, _ => simp
    | [c], ha, _ =>
      by_cases hp : plainC c = true
      · intro hx
        rw [List.mem_singleton] at hx
        subst hx
        exact absurd hp (by decide)
      · rw [lettersOnly_bad (by simp [letD, hp]) (by simp)] at ha; cases ha
    | c :: d :: r, ha, hn =>
      simp only [List.length_cons] at hn
      by_cases hp : plainC c = true
      · rw [lo1 hp] at ha
        have h2 := ih (d :: r) (by simp only [List.length_cons]; omega) ha
        intro hx
        rcases List.mem_cons.1 hx with e | hx
        · subst e; exact absurd hp (by decide)
        · exact h2 hx
      · by_cases ht : two c d = true
        · rw [lo2 ht] at ha
          have h2 := ih r (by omega) ha
          rw [two_iff] at ht
          intro hx
          rcases List.mem_cons.1 hx with e | hx
          · omega
          · rcases List.mem_cons.1 hx with e | hx
            · omega
            · exact h2 hx
        · rw [lettersOnly_bad (by simp only [letD, if_neg hp, if_neg ht]) (by simp)] at ha; cases ha
theorem may_no58 {s : ByteArray} (h : mayL (bytesOf s) = true) : (58 : Int) ∉ bytesOf s := letters_no58 _ _ (Nat.le_refl _) (may_parts h).2.2.2
theorem mem58 (s : ByteArray) : (58 : Int) ∈ bytesOf s ↔ (58 : UInt8) ∈ s.data.toList := by
  unfold bytesOf
  rw [List.mem_map]
  constructor
  · rintro ⟨b, hb, e⟩
    have : b = 58 := by
      apply UInt8.toNat.inj
      show b.toNat = 58
      omega
    rwa [this] at hb
  · intro h
    exact ⟨58, h, rfl⟩
theorem ix_none : ∀ l : List UInt8, (58 : UInt8) ∉ l → Lib.indexByte l 58 = -1 := by
  intro l
  induction l with
  | nil => intro _; rfl
  | cons b r ih =>
    intro h
    rw [List.mem_cons, not_or] at h
    have e : (b == 58) = false := beq_eq_false_iff_ne.mpr (fun e => h.1 e.symm)
    simp only [Lib.indexByte, e, ih h.2]
    rfl
theorem ix_some : ∀ (a b : List UInt8), (58 : UInt8) ∉ a → Lib.indexByte (a ++ 58 :: b) 58 = (a.length : Int) := by
  intro a
  induction a with
  | nil => intro b _; rfl
  | cons c r ih =>
    intro b h
    rw [List.mem_cons, not_or] at h
    have e : (c == 58) = false := beq_eq_false_iff_ne.mpr (fun e => h.1 e.symm)
    have e2 : ((r.length : Int) == -1) = false := beq_eq_false_iff_ne.mpr (by omega)
    show Lib.indexByte (c :: (r ++ 58 :: b)) 58 = _
    simp only [Lib.indexByte, e, ih b h.2, e2, List.length_cons]
    simp
/-- A text and its first colon. -/
theorem split58 (s : ByteArray) : (58 : Int) ∉ bytesOf s ∨ ∃ k v : ByteArray, s = k ++ (⟨#[58]⟩ : ByteArray) ++ v ∧ (58 : Int) ∉ bytesOf k ∧ k.size + v.size + 1 = s.size := by
  have key : ∀ l : List Int, isBytes l → (58 : Int) ∉ l ∨ ∃ a b, l = a ++ 58 :: b ∧ (58 : Int) ∉ a := by
    intro l
    induction l with
    | nil => intro _; exact .inl (by simp)
    | cons c r ih =>
      intro h
      by_cases hc : c = 58
      · exact .inr ⟨[], r, by rw [hc]; rfl, by simp⟩
      · rcases ih (fun x hx => h x (by simp [hx])) with h1 | ⟨a, b, h1, h2⟩
        · exact .inl (by rw [List.mem_cons, not_or]; exact ⟨fun e => hc e.symm, h1⟩)
        · exact .inr ⟨c :: a, b, by rw [h1]; rfl, by rw [List.mem_cons, not_or]; exact ⟨fun e => hc e.symm, h2⟩⟩
  rcases key (bytesOf s) (bytesOf_isBytes s) with h | ⟨a, b, h1, h2⟩
  · exact .inl h
  · right
    have hby := bytesOf_isBytes s
    rw [h1] at hby
    obtain ⟨ha, hb⟩ := isBytes_append.1 hby
    have hb2 : isBytes b := fun c hc => hb c (by simp [hc])
    have e58 : (⟨#[58]⟩ : ByteArray) = strOfNums [58] := rfl
    refine ⟨strOfNums a, strOfNums b, ?_, by rw [bytesOf_strOfNums ha]; exact h2, ?_⟩
    · rw [e58, ← str_append, ← str_append, List.append_assoc, List.singleton_append, ← h1, strOfNums_bytesOf]
    · rw [strOfNums_size', strOfNums_size', ← bytes_length s, h1, List.length_append, List.length_cons]; omega
theorem data_cat (k v : ByteArray) : (k ++ (⟨#[58]⟩ : ByteArray) ++ v).data.toList = k.data.toList ++ 58 :: v.data.toList := by
  rw [ByteArray.data_append, ByteArray.data_append, Array.toList_append, Array.toList_append, List.append_assoc]; rfl
theorem ext_head (k v : ByteArray) : (k ++ (⟨#[58]⟩ : ByteArray) ++ v).extract 0 k.size = k := by
  apply bytesOf_inj
  rw [bytes_extract, List.drop_zero, Nat.sub_zero, ByteArray.append_assoc, bytes_append, ← bytes_length k, List.take_left]
theorem ext_tail (k v : ByteArray) (n : Nat) (hn : n = (k ++ (⟨#[58]⟩ : ByteArray) ++ v).size) : (k ++ (⟨#[58]⟩ : ByteArray) ++ v).extract (k.size + 1) n = v := by
  apply bytesOf_inj
  have hk : (k ++ (⟨#[58]⟩ : ByteArray)).size = k.size + 1 := by rw [ByteArray.size_append]; rfl
  rw [bytes_extract, hn, ByteArray.size_append, hk, bytes_append, ← hk, ← bytes_length, List.drop_left, List.take_of_length_le (by rw [bytes_length]; omega)]
open Go.Proofs.YtkbnckpcllfikaaW.PrintLast
def D36.T3 : Bool × List (List Nat × List Nat) := (true, [([], []), ([], []), ([0, 1], [0, 1]), ([], []), ([], []), ([], []), ([5], [5]), ([4, 6], [4, 6]), ([3, 7], [3, 7]), ([2, 0, 1, 2], [2]), ([8, 9, 0, 1, 2, 3, 4, 5, 6, 7, 8, 9], [8]), ([10, 0, 1, 2, 3, 4, 5, 6, 7, 8, 9, 10], [])])
def D36.B3 : List Nat := [0, 0, 3, 0, 0, 0, 32, 112, 248, 7, 1023, 2047]
theorem D36.tab3 : rtab .any (opsOf Try.f36 3) = D36.T3 := by kernel_rfl
theorem D36.bits3 : waitsOk D36.T3.2 D36.B3 = true := by kernel_rfl
theorem icut_yes (k v s : ByteArray) (w : World) (hs : s = k ++ (⟨#[58]⟩ : ByteArray) ++ v) (hk : (58 : Int) ∉ bytesOf k) (hz : s.size ≤ 1000000) (hkz : k.size + 1 ≤ s.size) :
    Calls Try.prog 36 #[.string s, .string ⟨#[58]⟩] w fun e w' => e = .returned (.tuple #[.string k, .string v, .bool true]) ∧ Below w.heap.size w w' := by
  have HE := Aside0.mk (show s.extract 0 k.size = k by rw [hs]; exact ext_head k v)
  have HT := Aside0.mk (show s.extract (k.size + 1) s.size = v by have := ext_tail k v s.size (by rw [hs]); rwa [← hs] at this)
  have hix : Lib.indexByte s.data.toList 58 = (k.size : Int) := by rw [hs, data_cat, ix_some _ _ (fun h => hk ((mem58 k).2 h)), Array.length_toList]; rfl
  have HIX := Aside0.mk hix
  clear hix hs hk
  have h0 : decide ((0 : Int) ≤ (k.size : Int)) = true := decide_eq_true (by omega)
  go_enter Try.func36, Try.ntmps36
  go_wp2_with fail
  have hC := Try.stringslite_Index_one s 58 w
  rw [HIX.out] at hC
  refine hC.mono ?_
  rintro e w1 ⟨rfl, rfl⟩
  have HBB := Aside0.mk (below_drew (Below.refl w1.heap.size w1))
  have hl1 : ¬ s.size < k.size := by omega
  have hl2 : (0 : Int) ≤ (k.size : Int) + 1 := by omega
  have hl3 : ¬ (s.size : Int) < (k.size : Int) + 1 := by omega
  have HL4 := Aside0.mk (wrap_small (n := (k.size : Int) + 1) (by omega) (by omega))
  go_wp2_with fail
  refine start_ (n := 12) (S := fun w' => True) (ds := []) #[false, false, false, false, false, false, false, false, false, false, false, false] (by kernel_rfl) rfl rfl trivial (fun hHeld => ?_); refine with_tabW D36.tab3 D36.bits3 (fun HT_ HW_ => ?_)
  refine inv_at [0, 1, 2, 3, 4, 5, 6, 7, 8, 9, 10, 11] (fun a0_ b a w' => a = putSel a0_ b [(0, 13, .string s), (1, 14, .int .i64 (k.size : Int)), (2, 15, .string (s.extract 0 k.size)), (3, 16, .string s), (4, 17, .int .i64 (k.size : Int)), (5, 18, .string ⟨#[58]⟩), (6, 19, .int .i64 1), (7, 20, .int .i64 ((k.size : Int) + 1)), (8, 21, .string (s.extract (k.size + 1) s.size)), (9, 4, .string (s.extract 0 k.size)), (10, 5, .string (s.extract (k.size + 1) s.size)), (11, 6, (Value.bool true))] ∧ (Below w1.heap.size w1 w')) HT_.out HW_.out (by kernel_rfl) (by kernel_rfl) ?_ ?_ ?_
  · exact ⟨by simp only [putSel, Bool.false_eq_true, if_false], HBB.out⟩
  · clear HT_ HW_ hHeld
    clear HBB
    refine steps_cons ?_ ?_
    · intro b a w' hI_ hb_ hon hoff
      refine ⟨_, rfl, fun K hK => ?_⟩
      obtain ⟨ha, Q_HBB⟩ := hI_
      have e0 : a.tmps[0]? = some (.string s) := by rw [ha]; exact (putSel_off rfl).trans rfl
      replace ha := Aside0.mk ha
      have HBB := Aside0.mk Q_HBB
      refine value_ (w1 := w') (v := .string s) (by rfl) rfl ?_ ?_
      · go_simp
        (try simp only [i64_w])
        try (first | rfl | assumption)
      refine hK.out _ _ ⟨(by rw [ha.out]; exact putSel_upk 0 hb_ rfl rfl rfl), Q_HBB⟩
    refine steps_cons ?_ ?_
    · intro b a w' hI_ hb_ hon hoff
      refine ⟨_, rfl, fun K hK => ?_⟩
      obtain ⟨ha, Q_HBB⟩ := hI_
      have e7 : a.tmps[7]? = some (.int .i64 (k.size : Int)) := by rw [ha]; exact (putSel_off rfl).trans rfl
      replace ha := Aside0.mk ha
      have HBB := Aside0.mk Q_HBB
      refine value_ (w1 := w') (v := .int .i64 (k.size : Int)) (by rfl) rfl ?_ ?_
      · go_simp
        (try simp only [i64_w])
        try (first | rfl | assumption)
      refine hK.out _ _ ⟨(by rw [ha.out]; exact putSel_upk 1 hb_ rfl rfl rfl), Q_HBB⟩
    refine steps_cons ?_ ?_
    · intro b a w' hI_ hb_ hon hoff
      refine ⟨_, rfl, fun K hK => ?_⟩
      obtain ⟨ha, Q_HBB⟩ := hI_
      have e13 : a.tmps[13]? = some (.string s) := by rw [ha]; exact putSel_on (e := (0, 13, .string s)) 0 rfl rfl (hon 0 (by kernel_rfl)) rfl
      have e14 : a.tmps[14]? = some (.int .i64 (k.size : Int)) := by rw [ha]; exact putSel_on (e := (1, 14, .int .i64 (k.size : Int))) 1 rfl rfl (hon 1 (by kernel_rfl)) rfl
      replace ha := Aside0.mk ha
      have HBB := Aside0.mk Q_HBB
      refine value_ (w1 := w') (v := .string (s.extract 0 k.size)) (by rfl) rfl ?_ ?_
      · go_simp
        (try simp only [i64_w])
        try (first | rfl | assumption)
      refine hK.out _ _ ⟨(by rw [ha.out]; exact putSel_upk 2 hb_ rfl rfl rfl), Q_HBB⟩
    refine steps_cons ?_ ?_
    · intro b a w' hI_ hb_ hon hoff
      refine ⟨_, rfl, fun K hK => ?_⟩
      obtain ⟨ha, Q_HBB⟩ := hI_
      have e0 : a.tmps[0]? = some (.string s) := by rw [ha]; exact (putSel_off rfl).trans rfl
      replace ha := Aside0.mk ha
      have HBB := Aside0.mk Q_HBB
      refine value_ (w1 := w') (v := .string s) (by rfl) rfl ?_ ?_
      · go_simp
        (try simp only [i64_w])
        try (first | rfl | assumption)
      refine hK.out _ _ ⟨(by rw [ha.out]; exact putSel_upk 3 hb_ rfl rfl rfl), Q_HBB⟩
    refine steps_cons ?_ ?_
    · intro b a w' hI_ hb_ hon hoff
      refine ⟨_, rfl, fun K hK => ?_⟩
      obtain ⟨ha, Q_HBB⟩ := hI_
      have e7 : a.tmps[7]? = some (.int .i64 (k.size : Int)) := by rw [ha]; exact (putSel_off rfl).trans rfl
      replace ha := Aside0.mk ha
      have HBB := Aside0.mk Q_HBB
      refine value_ (w1 := w') (v := .int .i64 (k.size : Int)) (by rfl) rfl ?_ ?_
      · go_simp
        (try simp only [i64_w])
        try (first | rfl | assumption)
      refine hK.out _ _ ⟨(by rw [ha.out]; exact putSel_upk 4 hb_ rfl rfl rfl), Q_HBB⟩
    refine steps_cons ?_ ?_
    · intro b a w' hI_ hb_ hon hoff
      refine ⟨_, rfl, fun K hK => ?_⟩
      obtain ⟨ha, Q_HBB⟩ := hI_
      have e1 : a.tmps[1]? = some (.string ⟨#[58]⟩) := by rw [ha]; exact (putSel_off rfl).trans rfl
      replace ha := Aside0.mk ha
      have HBB := Aside0.mk Q_HBB
      refine value_ (w1 := w') (v := .string ⟨#[58]⟩) (by rfl) rfl ?_ ?_
      · go_simp
        (try simp only [i64_w])
        try (first | rfl | assumption)
      refine hK.out _ _ ⟨(by rw [ha.out]; exact putSel_upk 5 hb_ rfl rfl rfl), Q_HBB⟩
    refine steps_cons ?_ ?_
    · intro b a w' hI_ hb_ hon hoff
      refine ⟨_, rfl, fun K hK => ?_⟩
      obtain ⟨ha, Q_HBB⟩ := hI_
      have e18 : a.tmps[18]? = some (.string ⟨#[58]⟩) := by rw [ha]; exact putSel_on (e := (5, 18, .string ⟨#[58]⟩)) 5 rfl rfl (hon 5 (by kernel_rfl)) rfl
      replace ha := Aside0.mk ha
      have HBB := Aside0.mk Q_HBB
      refine value_ (w1 := w') (v := .int .i64 1) (by rfl) rfl ?_ ?_
      · go_simp
        (try simp only [i64_w])
        try (first | rfl | assumption)
      refine hK.out _ _ ⟨(by rw [ha.out]; exact putSel_upk 6 hb_ rfl rfl rfl), Q_HBB⟩
    refine steps_cons ?_ ?_
    · intro b a w' hI_ hb_ hon hoff
      refine ⟨_, rfl, fun K hK => ?_⟩
      obtain ⟨ha, Q_HBB⟩ := hI_
      have e17 : a.tmps[17]? = some (.int .i64 (k.size : Int)) := by rw [ha]; exact putSel_on (e := (4, 17, .int .i64 (k.size : Int))) 4 rfl rfl (hon 4 (by kernel_rfl)) rfl
      have e19 : a.tmps[19]? = some (.int .i64 1) := by rw [ha]; exact putSel_on (e := (6, 19, .int .i64 1)) 6 rfl rfl (hon 6 (by kernel_rfl)) rfl
      replace ha := Aside0.mk ha
      have HBB := Aside0.mk Q_HBB
      have hl4 := HL4.out
      refine value_ (w1 := w') (v := .int .i64 ((k.size : Int) + 1)) (by rfl) rfl ?_ ?_
      · go_simp
        (try simp only [i64_w])
        try (first | rfl | assumption)
      refine hK.out _ _ ⟨(by rw [ha.out]; exact putSel_upk 7 hb_ rfl rfl rfl), Q_HBB⟩
    refine steps_cons ?_ ?_
    · intro b a w' hI_ hb_ hon hoff
      refine ⟨_, rfl, fun K hK => ?_⟩
      obtain ⟨ha, Q_HBB⟩ := hI_
      have e16 : a.tmps[16]? = some (.string s) := by rw [ha]; exact putSel_on (e := (3, 16, .string s)) 3 rfl rfl (hon 3 (by kernel_rfl)) rfl
      have e20 : a.tmps[20]? = some (.int .i64 ((k.size : Int) + 1)) := by rw [ha]; exact putSel_on (e := (7, 20, .int .i64 ((k.size : Int) + 1))) 7 rfl rfl (hon 7 (by kernel_rfl)) rfl
      replace ha := Aside0.mk ha
      have HBB := Aside0.mk Q_HBB
      refine value_ (w1 := w') (v := .string (s.extract (k.size + 1) s.size)) (by rfl) rfl ?_ ?_
      · go_simp
        (try simp only [i64_w])
        try (first | rfl | assumption)
      refine hK.out _ _ ⟨(by rw [ha.out]; exact putSel_upk 8 hb_ rfl rfl rfl), Q_HBB⟩
    refine steps_cons ?_ ?_
    · intro b a w' hI_ hb_ hon hoff
      refine ⟨_, rfl, fun K hK => ?_⟩
      obtain ⟨ha, Q_HBB⟩ := hI_
      have e15 : a.tmps[15]? = some (.string (s.extract 0 k.size)) := by rw [ha]; exact putSel_on (e := (2, 15, .string (s.extract 0 k.size))) 2 rfl rfl (hon 2 (by kernel_rfl)) rfl
      replace ha := Aside0.mk ha
      have HBB := Aside0.mk Q_HBB
      refine value_ (w1 := w') (v := .string (s.extract 0 k.size)) (by rfl) rfl ?_ ?_
      · go_simp
        (try simp only [i64_w])
        try (first | rfl | assumption)
      refine hK.out _ _ ⟨(by rw [ha.out]; exact putSel_upk 9 hb_ rfl rfl rfl), Q_HBB⟩
    refine steps_cons ?_ ?_
    · intro b a w' hI_ hb_ hon hoff
      refine ⟨_, rfl, fun K hK => ?_⟩
      obtain ⟨ha, Q_HBB⟩ := hI_
      have e21 : a.tmps[21]? = some (.string (s.extract (k.size + 1) s.size)) := by rw [ha]; exact putSel_on (e := (8, 21, .string (s.extract (k.size + 1) s.size))) 8 rfl rfl (hon 8 (by kernel_rfl)) rfl
      replace ha := Aside0.mk ha
      have HBB := Aside0.mk Q_HBB
      refine value_ (w1 := w') (v := .string (s.extract (k.size + 1) s.size)) (by rfl) rfl ?_ ?_
      · go_simp
        (try simp only [i64_w])
        try (first | rfl | assumption)
      refine hK.out _ _ ⟨(by rw [ha.out]; exact putSel_upk 10 hb_ rfl rfl rfl), Q_HBB⟩
    refine steps_cons ?_ ?_
    · intro b a w' hI_ hb_ hon hoff
      refine ⟨_, rfl, fun K hK => ?_⟩
      obtain ⟨ha, Q_HBB⟩ := hI_
      replace ha := Aside0.mk ha
      have HBB := Aside0.mk Q_HBB
      refine value_ (w1 := w') (v := (Value.bool true)) (by rfl) rfl ?_ ?_
      · go_simp
        (try simp only [i64_w])
        try (first | rfl | assumption)
      refine hK.out _ _ ⟨(by rw [ha.out]; exact putSel_upk 11 hb_ rfl rfl rfl), Q_HBB⟩
    exact steps_nil
  rintro b a wz hall ⟨ha, Q_HBB⟩
  clear HBB
  have hb0_ := hall 0 (by kernel_rfl)
  have hb1_ := hall 1 (by kernel_rfl)
  have hb2_ := hall 2 (by kernel_rfl)
  have hb3_ := hall 3 (by kernel_rfl)
  have hb4_ := hall 4 (by kernel_rfl)
  have hb5_ := hall 5 (by kernel_rfl)
  have hb6_ := hall 6 (by kernel_rfl)
  have hb7_ := hall 7 (by kernel_rfl)
  have hb8_ := hall 8 (by kernel_rfl)
  have hb9_ := hall 9 (by kernel_rfl)
  have hb10_ := hall 10 (by kernel_rfl)
  have hb11_ := hall 11 (by kernel_rfl)
  subst ha
  simp only [putSel, hb0_, hb1_, hb2_, hb3_, hb4_, hb5_, hb6_, hb7_, hb8_, hb9_, hb10_, hb11_, if_true, Act.put, List.setIfInBounds_toArray, List.set_cons_zero, List.set_cons_succ]
  have HBB := Aside0.mk Q_HBB
  clear Q_HBB
  clear hall hb0_ hb1_ hb2_ hb3_ hb4_ hb5_ hb6_ hb7_ hb8_ hb9_ hb10_ hb11_
  go_wp2
  go_ret3
  exact ⟨by first | rfl | (rw [HE.out, HT.out]; rfl) | rw [HE.out, HT.out], HBB.out⟩
theorem icut_no (s : ByteArray) (w : World) (hk : (58 : Int) ∉ bytesOf s) :
    Calls Try.prog 36 #[.string s, .string ⟨#[58]⟩] w fun e w' => e = .returned (.tuple #[.string s, .string ⟨#[]⟩, .bool false]) ∧ Below w.heap.size w w' := by
  have hix : Lib.indexByte s.data.toList 58 = -1 := ix_none _ (fun h => hk ((mem58 s).2 h))
  go_enter Try.func36, Try.ntmps36
  go_wp2_with fail
  have hC := Try.stringslite_Index_one s 58 w
  rw [hix] at hC
  refine hC.mono ?_
  rintro e w1 ⟨rfl, rfl⟩
  go_wp2
  go_ret3
  exact ⟨rfl, by repeat (first | exact Below.refl _ _ | apply below_drew | apply pw_below_drewN)⟩
theorem cut_yes (k v s : ByteArray) (w : World) (hs : s = k ++ (⟨#[58]⟩ : ByteArray) ++ v) (hk : (58 : Int) ∉ bytesOf k) (hz : s.size ≤ 1000000) (hkz : k.size + 1 ≤ s.size) :
    Calls Try.prog 28 #[.string s, .string ⟨#[58]⟩] w fun e w' => e = .returned (.tuple #[.string k, .string v, .bool true]) ∧ Below w.heap.size w w' := by
  have HB := Aside0.mk (Below.refl w.heap.size w)
  have HS := Aside0.mk hs
  have HK := Aside0.mk hk
  clear hs hk
  go_enter Try.func28, Try.ntmps28
  go_wp2_with fail
  refine (icut_yes k v s _ HS.out HK.out hz hkz).mono ?_

  rintro e w_ ⟨rfl, hb⟩
  have n_ := Aside0.mk (below_step (by repeat (first | (with_reducible first | exact HB.out | apply below_alloc | apply pw_below_drewN | apply below_drew1) | exact HB.out)) hb); clear HB hb; have HB := n_; clear n_
  go_wp2
  go_ret3
  exact ⟨rfl, (by repeat (first | (with_reducible first | exact HB.out | apply below_alloc | apply pw_below_drewN | apply below_drew1) | exact HB.out))⟩
theorem cut_no (s : ByteArray) (w : World) (hk : (58 : Int) ∉ bytesOf s) :
    Calls Try.prog 28 #[.string s, .string ⟨#[58]⟩] w fun e w' => e = .returned (.tuple #[.string s, .string ⟨#[]⟩, .bool false]) ∧ Below w.heap.size w w' := by
  have HB := Aside0.mk (Below.refl w.heap.size w)
  have HK := Aside0.mk hk
  clear hk
  go_enter Try.func28, Try.ntmps28
  go_wp2_with fail
  refine (icut_no s _ HK.out).mono ?_

  rintro e w_ ⟨rfl, hb⟩
  have n_ := Aside0.mk (below_step (by repeat (first | (with_reducible first | exact HB.out | apply below_alloc | apply pw_below_drewN | apply below_drew1) | exact HB.out)) hb); clear HB hb; have HB := n_; clear n_
  go_wp2
  go_ret3
  exact ⟨rfl, (by repeat (first | (with_reducible first | exact HB.out | apply below_alloc | apply pw_below_drewN | apply below_drew1) | exact HB.out))⟩
end Go.Proofs.Ytkbnckpcllfikaa.Nam

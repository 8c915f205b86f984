/- Walks of package num and of its reference: texts taken. -/
import Derived.Test.YtnkaighdajickaaN2
namespace Go.Proofs.Ytnkaighdajickaa.Num
open Go.RowKit Go.Proofs.YtnkaighdajickaaW.PrintWords Go.Proofs.YtnkaighdajickaaW.PrintLast Go.Proofs.YtnkaighdajickaaW.PrintMore
set_option linter.unusedVariables false
set_option linter.unusedSimpArgs false
attribute [local go_sem] max2_int min2_int max_two min_two

def textOf (l : List Int) : ByteArray := match decT l with | none => ByteArray.empty | some q => strOfNums q.1
def aftT (l : List Int) : List Int := match decT l with | none => [] | some q => q.2
def badT (l : List Int) (bad : Bool) : Bool := bad || (decT l).isNone
theorem aft_bytes {l : List Int} (h : isBytes l) : isBytes (aft l) := by
  unfold aft
  cases hd : dec l with
  | none => intro c hc; simp at hc
  | some q => have := (dec_sound h hd).1; rw [this] at h; exact (isBytes_append.1 h).2
theorem numOf_i64 {l : List Int} (h : isBytes l) : i64 (numOf l) := by
  unfold numOf
  cases hd : dec l with
  | none => exact ⟨by simp, by simp⟩
  | some q => exact (dec_sound h hd).2

theorem num_calls' (x : Int) (P : Nat → Prop) (w : World) (g : Nat) (l : List Int) (bad : Bool) (hI : Rd 47 P w g l bad) (hb : isBytes l) (hx : numOf l = x) :
    Calls Try.prog 17 #[.pointer (some ⟨g, 0, none⟩)] w fun e w' => e = .returned (.int .i64 x) ∧ Rd 47 P w' g (aft l) (badOf l bad) ∧ Below g w w' ∧ KeepBut w w' g none := by
  subst hx; exact num_calls P w g l bad hI hb
theorem keep_step {w w1 w2 : World} {g : Nat} (h : KeepBut w w1 g none) (k : KeepBut w1 w2 g none) : KeepBut w w2 g none := h.trans k (.inl rfl)
theorem decT_num {l : List Int} {n : Nat} (h : numOf l = (n : Int)) (hn : n ≤ (aft l).length) (hs : (dec l).isSome = true) : decT l = some ((aft l).take n, (aft l).drop n) := by
  unfold numOf aft at *
  unfold decT
  cases hd : dec l with
  | none => rw [hd] at hs; simp at hs
  | some q =>
    rw [hd] at h hn
    simp only at h hn
    simp only [Option.bind_some]
    rw [if_neg (by omega), h]; simp
theorem decT_none0 {l : List Int} (h : (dec l).isSome = false) : decT l = none := by
  unfold decT
  cases hd : dec l with
  | none => rfl
  | some q => rw [hd] at h; simp at h
theorem decT_none1 {l : List Int} (h : numOf l < 0 ∨ ((aft l).length : Int) < numOf l) : decT l = none := by
  unfold numOf aft at *
  unfold decT
  cases hd : dec l with
  | none => rfl
  | some q => rw [hd] at h; simp only at h; simp only [Option.bind_some]; rw [if_pos h]
theorem num_none {l : List Int} (h : (dec l).isSome = false) : numOf l = 0 ∧ aft l = [] ∧ ∀ b, badOf l b = true := by
  unfold numOf aft badOf
  cases hd : dec l with
  | none => exact ⟨rfl, rfl, fun b => by simp⟩
  | some q => rw [hd] at h; simp at h
theorem bad_some {l : List Int} (h : (dec l).isSome = true) (b : Bool) : badOf l b = b := by
  unfold badOf
  cases hd : dec l with
  | none => rw [hd] at h; simp at h
  | some q => simp

/-- A text is taken: both readers go alike from the number on. -/
theorem textEnd {l : List Int} (n : Nat) (h : numOf l = (n : Int)) (hn : n ≤ (aft l).length) (bad : Bool) :
    textOf l = strOfNums ((aft l).take n) ∧ aftT l = (aft l).drop n ∧ badT l bad = badOf l bad := by
  cases hs : (dec l).isSome with
  | true =>
    have hd := decT_num h hn hs
    unfold textOf aftT badT
    rw [hd, bad_some hs]
    exact ⟨rfl, rfl, by simp⟩
  | false =>
    have hd := decT_none0 hs
    obtain ⟨h1, h2, h3⟩ := num_none hs
    unfold textOf aftT badT
    rw [hd, h2, h3]
    exact ⟨by simp [strOfNums]; rfl, by simp, by simp⟩
theorem textNone {l : List Int} (h : numOf l < 0 ∨ ((aft l).length : Int) < numOf l) (bad : Bool) : textOf l = ByteArray.empty ∧ aftT l = [] ∧ badT l bad = true := by
  unfold textOf aftT badT
  rw [decT_none1 h]
  exact ⟨rfl, rfl, by simp⟩

theorem take_C {w : World} {A : Option Addr} {l : List Int} {n : Nat} (h : (Kd.int .u8).C w A l.length l) (hn : n ≤ l.length) : (Kd.int .u8).C w A n (l.take n) := by
  have h2 := Kd.C_take h hn
  rwa [List.length_take, Nat.min_eq_left hn] at h2
theorem info_size : ∃ i0, Try.prog.info? 5 = some i0 ∧ i0.size = 1 := by obtain ⟨i0, h1, h2⟩ := Option.map_eq_some_iff.1 size_u8; exact ⟨i0, h1, h2⟩
theorem text_calls (P : Nat → Prop) (w : World) (g : Nat) (l : List Int) (bad : Bool) (hI : Rd 47 P w g l bad) (hb : isBytes l) :
    Calls Try.prog 20 #[.pointer (some ⟨g, 0, none⟩)] w fun e w' => e = .returned (.string (textOf l)) ∧ Rd 47 P w' g (aftT l) (badT l bad) ∧ Below g w w' ∧ KeepBut w w' g none := by
  have hn64 := numOf_i64 hb
  obtain ⟨x, hx⟩ : ∃ x, numOf l = x := ⟨_, rfl⟩
  rw [hx] at hn64
  obtain ⟨hx1, hx2⟩ := hn64
  have HX := Aside0.mk hx
  by_cases hneg : x < 0
  · have e1 : decide (x < 0) = true := decide_eq_true hneg
    obtain ⟨t1, t2, t3⟩ := textNone (l := l) (.inl (by omega)) bad
    rw [t1, t2, t3]
    go_enter Try.func20, Try.ntmps20
    go_wp2_with (first | (go_at_call 17; refine (num_calls' x P w g l bad hI hb hx).mono ?_; rintro e w1 ⟨rfl, hI2, hb2, hk2⟩; have HI2 := Aside0.mk hI2; obtain ⟨A, c, hblk, hc, hr, hP, hg⟩ := hI2; have hc0 : w1.cell? ⟨g, 0, none⟩ = some (.slice A (aft l).length c) := blk_cell hblk 0; have hf0 : w1.frozen? ⟨g, 0, none⟩ = false := blk_frozen hblk 0; have HBK := Aside0.mk hblk; have HG := Aside0.mk hg; have HC := Aside0.mk hc; have HR := Aside0.mk hr; have HP := Aside0.mk hP; have HB := Aside0.mk hb2; have HK := Aside0.mk hk2; clear hblk hg hc hr hb2 hk2 hP) | (go_at_call 24; refine (fail_calls P _ g (aft l) (badOf l bad) HI2.out).mono ?_; rintro e w2 ⟨rfl, hI3, hb2, hk2⟩; have n1_ := Aside0.mk hI3; have n2_ := Aside0.mk (HB.out.trans hb2); have n3_ := Aside0.mk (keep_step HK.out hk2); clear hI3 hb2 hk2))
    go_ret
    exact ⟨rfl, n1_.out, n2_.out, n3_.out⟩
  · have e1 : decide (x < 0) = false := decide_eq_false hneg
    by_cases hbig : ((aft l).length : Int) < x
    · have e2 : decide (((aft l).length : Int) < x) = true := decide_eq_true hbig
      obtain ⟨t1, t2, t3⟩ := textNone (l := l) (.inr (by omega)) bad
      rw [t1, t2, t3]
      go_enter Try.func20, Try.ntmps20
      go_wp2_with (first | (go_at_call 17; refine (num_calls' x P w g l bad hI hb hx).mono ?_; rintro e w1 ⟨rfl, hI2, hb2, hk2⟩; have HI2 := Aside0.mk hI2; obtain ⟨A, c, hblk, hc, hr, hP, hg⟩ := hI2; have hc0 : w1.cell? ⟨g, 0, none⟩ = some (.slice A (aft l).length c) := blk_cell hblk 0; have hf0 : w1.frozen? ⟨g, 0, none⟩ = false := blk_frozen hblk 0; have HBK := Aside0.mk hblk; have HG := Aside0.mk hg; have HC := Aside0.mk hc; have HR := Aside0.mk hr; have HP := Aside0.mk hP; have HB := Aside0.mk hb2; have HK := Aside0.mk hk2; clear hblk hg hc hr hb2 hk2 hP) | (go_at_call 24; refine (fail_calls P _ g (aft l) (badOf l bad) HI2.out).mono ?_; rintro e w2 ⟨rfl, hI3, hb2, hk2⟩; have n1_ := Aside0.mk hI3; have n2_ := Aside0.mk (HB.out.trans hb2); have n3_ := Aside0.mk (keep_step HK.out hk2); clear hI3 hb2 hk2))
      go_ret
      exact ⟨rfl, n1_.out, n2_.out, n3_.out⟩
    · have e2 : decide (((aft l).length : Int) < x) = false := decide_eq_false hbig
      obtain ⟨n, rfl⟩ := Int.eq_ofNat_of_zero_le (show 0 ≤ x by omega)
      obtain ⟨t1, t2, t3⟩ := textEnd (l := l) n hx (by omega) bad
      rw [t1, t2, t3]
      have hna : n ≤ (aft l).length := by omega
      go_enter Try.func20, Try.ntmps20
      go_wp2_with (first | (go_at_call 17; refine (num_calls' (n : Int) P w g l bad hI hb hx).mono ?_; rintro e w1 ⟨rfl, hI2, hb2, hk2⟩; have HI2 := Aside0.mk hI2; obtain ⟨A, c, hblk, hc, hr, hP, hg⟩ := hI2; have hc0 : w1.cell? ⟨g, 0, none⟩ = some (.slice A (aft l).length c) := blk_cell hblk 0; have hf0 : w1.frozen? ⟨g, 0, none⟩ = false := blk_frozen hblk 0; have HBK := Aside0.mk hblk; have HG := Aside0.mk hg; have HC := Aside0.mk hc; have HR := Aside0.mk hr; have HP := Aside0.mk hP; have HB := Aside0.mk hb2; have HK := Aside0.mk hk2; clear hblk hg hc hr hb2 hk2 hP; have hnc : n ≤ c := (by have := HC.out; omega); have hcv := Kd.C_string (P := Try.prog) (c := c) Try.underlying23 Try.underlying5 Try.underlying9 (take_C HR.out hna); obtain ⟨i0, hi0, hi1⟩ := info_size; obtain ⟨A', hcut, hA', hAb⟩ := cutL (P := Try.prog) 23 5 .i64 Try.underlying23 hi0 hi1 A (aft l).length c n hna; have HA := Aside0.mk (hA' w1 (aft l) HC.out HR.out); have HAB := Aside0.mk hAb; clear hA' hi0 hi1 hAb))
      go_ret
      have hs := blk_set HBK.out 0 (.slice A' ((aft l).length - n) (c - n))
      have hbl : ∀ ad, A' = some ad → 0 < ((aft l).drop n).length → P ad.block := fun ad e hn => by
        obtain ⟨ad0, h1, h2⟩ := HAB.out ad e
        rw [h2]; exact HP.out ad0 h1 (by rw [List.length_drop] at hn; omega)
      refine ⟨rfl, ⟨A', c - n, by simpa using hs, by simp only [List.length_drop]; (have := HC.out; omega), Kd.C_keep (0 : Int) (by simp only [List.length_drop]; exact HA.out) ((KeepBut.refl w1 g none).set_ 0 _) (fun ad e hn he => HG.out (he ▸ hbl ad e hn)), hbl, HG.out⟩, belowSet HB.out _, HK.out.set_ 0 _⟩

theorem refFail_calls (P : Nat → Prop) (w : World) (g : Nat) (l : List Int) (bad : Bool) (hI : Rd 37 P w g l bad) :
    Calls Try.prog 25 #[.pointer (some ⟨g, 0, none⟩)] w fun e w' => e = .returned (.tuple #[]) ∧ Rd 37 P w' g [] true ∧ Below g w w' ∧ KeepBut w w' g none := by
  obtain ⟨A, c, hblk, hc, hr, hP, hg⟩ := hI
  have hc0 := blk_cell hblk 0
  have hc1 := blk_cell hblk 1
  have hf0 := blk_frozen hblk 0
  have hf1 := blk_frozen hblk 1
  have HK := Aside0.mk hblk
  have HG := Aside0.mk hg
  clear hblk hr hc hP hg
  go_enter Try.func25, Try.ntmps25
  go_wp2
  go_end0
  have h2 := blk_set (blk_set HK.out 1 (.bool true)) 0 (.slice none 0 0)
  exact ⟨rfl, ⟨none, 0, by simpa using h2, Nat.le_refl _, Kd.C_nil _ _, (fun _ h _ => by cases h), HG.out⟩, belowSet (belowSet (Below.refl g w) _) _, ((KeepBut.refl w g none).set_ 1 _).set_ 0 _⟩

theorem refNum_calls (P : Nat → Prop) (w : World) (g : Nat) (l : List Int) (bad : Bool) (hI : Rd 37 P w g l bad) (hb : isBytes l) :
    Calls Try.prog 22 #[.pointer (some ⟨g, 0, none⟩)] w fun e w' => e = .returned (.int .i64 (numOf l)) ∧ Rd 37 P w' g (aft l) (badOf l bad) ∧ Below g w w' ∧ KeepBut w w' g none := by
  have HI0 := Aside0.mk hI
  obtain ⟨A, c, hblk, hc, hr, hP, hg⟩ := hI
  have hc0 : w.cell? ⟨g, 0, none⟩ = some (.slice A l.length c) := blk_cell hblk 0
  have hf0 : w.frozen? ⟨g, 0, none⟩ = false := blk_frozen hblk 0
  have HBK := Aside0.mk hblk
  have HG := Aside0.mk hg
  have HC := Aside0.mk hc
  have HR := Aside0.mk hr
  have HP := Aside0.mk hP
  have HBY := Aside0.mk hb
  clear hblk hr hg hb hc hP
  obtain ⟨n, hn⟩ : ∃ n, n = lenD l := ⟨_, rfl⟩
  by_cases h0 : n = 0
  · have hd := dec_len0 HBY.out (hn ▸ h0)
    have HD := Aside0.mk hd
    have HN := Aside0.mk (show (lenD l : Int) = 0 by omega)
    have e0 : ((0 : Int) == 0) = true := rfl
    clear hd h0 hn
    go_enter Try.func22, Try.ntmps22
    go_wp2_with (first
      | (go_at_call 26; refine (length_calls A c l w HR.out HC.out HBY.out).mono ?_; rw [HN.out]; rintro e w1 ⟨rfl, ⟨m1, rfl⟩⟩)
      | (go_at_call 25; refine (refFail_calls P _ g l bad (Rd.drewN HI0.out m1)).mono ?_; rintro e w2 ⟨rfl, hI2, hb2, hk2⟩; have n1_ := Aside0.mk hI2; have n2_ := Aside0.mk hb2; have n3_ := Aside0.mk hk2; clear hI2 hb2 hk2))
    go_ret
    exact ⟨ret_i64 (by unfold numOf; rw [HD.out]), by unfold aft badOf; rw [HD.out]; simpa using n1_.out, (pw_below_drewN (Below.refl g w) m1).trans n2_.out, n3_.out⟩
  · obtain ⟨d1, d2, d3⟩ := dec_len HBY.out (hn ▸ h0)
    rw [← hn] at d1 d2 d3
    have HD := Aside0.mk d1
    have HN := Aside0.mk (show (lenD l : Int) = (n : Int) by rw [hn])
    have HV := Aside0.mk d3
    have e0 : ((n : Int) == 0) = false := beq_eq_false_iff_ne.mpr (by omega)
    have hnc : n ≤ c := by have := HC.out; omega
    have hml := Kd.C_max HR.out
    clear d1 d3 hn
    obtain ⟨i0, hi0, hi1⟩ := info_size
    obtain ⟨A', hcut, hA', hAb⟩ := cutL (P := Try.prog) 23 5 .i64 Try.underlying23 hi0 hi1 A l.length c n d2
    have HA := Aside0.mk (hA' w l HC.out HR.out)
    have hbl : ∀ ad, A' = some ad → 0 < (l.drop n).length → P ad.block := fun ad e hn => by
      obtain ⟨ad0, h1, h2⟩ := hAb ad e
      rw [h2]; exact HP.out ad0 h1 (by rw [List.length_drop] at hn; omega)
    have HBL := Aside0.mk hbl
    clear hA' hi0 hi1 hAb hbl
    go_enter Try.func22, Try.ntmps22
    go_wp2_with (first
      | (go_at_call 26; refine (length_calls A c l w HR.out HC.out HBY.out).mono ?_; rw [HN.out]; rintro e w1 ⟨rfl, ⟨m1, rfl⟩⟩))
    go_loopg [4, 5] n (fun k v4 v5 w' => ∃ u : Nat, v4 = .int .u64 (u : Int) ∧ v5 = .int .i64 ((k : Int) - 1) ∧ Aside0 (u = valU ((l.take n).drop k)) ∧ Aside0 (k ≤ n) ∧ Drawn0 w w')
    case atStart => exact ⟨0, rfl, rfl, ⟨by rw [List.drop_eq_nil_of_le (by rw [List.length_take]; omega)]; rfl⟩, ⟨Nat.le_refl _⟩, ⟨_, rfl⟩⟩
    case round =>
      obtain ⟨u, rfl, rfl, HU, HK, ⟨m2, rfl⟩⟩ := hrel
      cases gk with
      | zero =>
        have e1 : decide ((0 : Int) ≤ ((0 : Nat) : Int) - 1) = false := by decide
        have hun : u = valU (l.take n) := by have := HU.out; simpa using this
        have hu : u < 18446744073709551616 := by rw [hun]; exact HV.out
        have HUN := Aside0.mk (show numOf l = unzz u by unfold numOf; rw [HD.out, hun])
        clear hun
        by_cases hodd : u % 2 = 1
        · have e2 : ((u : Int) % 2 == 1) = true := beq_iff_eq.mpr (by omega)
          go_wp2
          go_ret
          refine ⟨ret_i64 (by rw [HUN.out]; unfold unzz; rw [if_pos hodd]; omega), ?_, belowSet (pw_below_drewN (Below.refl g w) _) _, (KeepBut.refl w g none).set_ 0 _⟩
          have hs := blk_set (blk_drewN HBK.out m2) 0 (.slice A' (l.length - n) (c - n))
          unfold aft badOf; rw [HD.out]
          exact ⟨A', c - n, by simpa using hs, by simp only [List.length_drop]; (have := HC.out; omega), Kd.C_keep (0 : Int) (by simp only [List.length_drop]; exact HA.out) ((KeepBut.refl w g none).set_ 0 _) (fun ad e hn he => HG.out (he ▸ HBL.out ad e hn)), HBL.out, HG.out⟩
        · have e2 : ((u : Int) % 2 == 1) = false := beq_eq_false_iff_ne.mpr (by omega)
          go_wp2
          go_ret
          refine ⟨ret_i64 (by rw [HUN.out]; unfold unzz; rw [if_neg hodd]; omega), ?_, belowSet (pw_below_drewN (Below.refl g w) _) _, (KeepBut.refl w g none).set_ 0 _⟩
          have hs := blk_set (blk_drewN HBK.out m2) 0 (.slice A' (l.length - n) (c - n))
          unfold aft badOf; rw [HD.out]
          exact ⟨A', c - n, by simpa using hs, by simp only [List.length_drop]; (have := HC.out; omega), Kd.C_keep (0 : Int) (by simp only [List.length_drop]; exact HA.out) ((KeepBut.refl w g none).set_ 0 _) (fun ad e hn he => HG.out (he ▸ HBL.out ad e hn)), HBL.out, HG.out⟩
      | succ k =>
        have hk := HK.out
        have e5 : ((k + 1 : Nat) : Int) - 1 = (k : Int) := by omega
        rw [e5]
        clear e5
        have e1 : decide ((0 : Int) ≤ (k : Int)) = true := decide_eq_true (by omega)
        have hg := getD_bytes HBY.out k
        obtain ⟨ad, rfl, hx⟩ := Kd.at_int HR.out (k : Int) (by omega) (by omega)
        rw [Int.toNat_natCast] at hx
        obtain ⟨d, hd0⟩ : ∃ d : Nat, (d : Int) = rd l (k : Int) := ⟨(rd l (k : Int)).toNat, by have : rd l (k : Int) = l.getD k 0 := rfl; omega⟩
        have hd1 : l.getD k 0 = (d : Int) := by rw [hd0]; rfl
        rw [← hd0] at hx
        rw [hd1] at hg
        have hst : valU ((l.take n).drop k) = d % 128 + 128 * u := by
          rw [valU_drop_step _ k (by rw [List.length_take]; omega), HU.out]
          congr 1
          rw [show (l.take n).getD k 0 = l.getD k 0 by rw [List.getD_eq_getElem?_getD, List.getElem?_take, if_pos (by omega), List.getD_eq_getElem?_getD], hd1]; omega
        have hle := Nat.le_trans (Nat.le_of_eq hst.symm) (valU_drop_le (l.take n) k)
        have hv := HV.out
        have hfit : d % 128 + 128 * u < 18446744073709551616 := Nat.lt_of_le_of_lt hle hv
        have HST := Aside0.mk hst
        have hkl : k < l.length := by omega
        clear hd0 hd1 hst hle hv
        go_wp2
        go_roundg k
        case measure => omega
        case rel => exact ⟨u * 128 + d % 128, by go_num, rfl, ⟨by rw [HST.out]; omega⟩, ⟨by omega⟩, ⟨m2, rfl⟩⟩
theorem refNum_calls' (x : Int) (P : Nat → Prop) (w : World) (g : Nat) (l : List Int) (bad : Bool) (hI : Rd 37 P w g l bad) (hb : isBytes l) (hx : numOf l = x) :
    Calls Try.prog 22 #[.pointer (some ⟨g, 0, none⟩)] w fun e w' => e = .returned (.int .i64 x) ∧ Rd 37 P w' g (aft l) (badOf l bad) ∧ Below g w w' ∧ KeepBut w w' g none := by
  subst hx; exact refNum_calls P w g l bad hI hb
theorem refText_calls (P : Nat → Prop) (w : World) (g : Nat) (l : List Int) (bad : Bool) (hI : Rd 37 P w g l bad) (hb : isBytes l) :
    Calls Try.prog 21 #[.pointer (some ⟨g, 0, none⟩)] w fun e w' => e = .returned (.string (textOf l)) ∧ Rd 37 P w' g (aftT l) (badT l bad) ∧ Below g w w' ∧ KeepBut w w' g none := by
  have hn64 := numOf_i64 hb
  obtain ⟨x, hx⟩ : ∃ x, numOf l = x := ⟨_, rfl⟩
  rw [hx] at hn64
  obtain ⟨hx1, hx2⟩ := hn64
  have HX := Aside0.mk hx
  by_cases hneg : x < 0
  · have e1 : decide (x < 0) = true := decide_eq_true hneg
    obtain ⟨t1, t2, t3⟩ := textNone (l := l) (.inl (by omega)) bad
    rw [t1, t2, t3]
    go_enter Try.func21, Try.ntmps21
    go_wp2_with (first | (go_at_call 22; refine (refNum_calls' x P w g l bad hI hb hx).mono ?_; rintro e w1 ⟨rfl, hI2, hb2, hk2⟩; have HI2 := Aside0.mk hI2; obtain ⟨A, c, hblk, hc, hr, hP, hg⟩ := hI2; have hc0 : w1.cell? ⟨g, 0, none⟩ = some (.slice A (aft l).length c) := blk_cell hblk 0; have hf0 : w1.frozen? ⟨g, 0, none⟩ = false := blk_frozen hblk 0; have HBK := Aside0.mk hblk; have HG := Aside0.mk hg; have HC := Aside0.mk hc; have HR := Aside0.mk hr; have HP := Aside0.mk hP; have HB := Aside0.mk hb2; have HK := Aside0.mk hk2; clear hblk hg hc hr hb2 hk2 hP) | (go_at_call 25; refine (refFail_calls P _ g (aft l) (badOf l bad) HI2.out).mono ?_; rintro e w2 ⟨rfl, hI3, hb2, hk2⟩; have n1_ := Aside0.mk hI3; have n2_ := Aside0.mk (HB.out.trans hb2); have n3_ := Aside0.mk (keep_step HK.out hk2); clear hI3 hb2 hk2))
    go_ret
    exact ⟨rfl, n1_.out, n2_.out, n3_.out⟩
  · have e1 : decide (x < 0) = false := decide_eq_false hneg
    by_cases hbig : ((aft l).length : Int) < x
    · have e2 : decide (((aft l).length : Int) < x) = true := decide_eq_true hbig
      obtain ⟨t1, t2, t3⟩ := textNone (l := l) (.inr (by omega)) bad
      rw [t1, t2, t3]
      go_enter Try.func21, Try.ntmps21
      go_wp2_with (first | (go_at_call 22; refine (refNum_calls' x P w g l bad hI hb hx).mono ?_; rintro e w1 ⟨rfl, hI2, hb2, hk2⟩; have HI2 := Aside0.mk hI2; obtain ⟨A, c, hblk, hc, hr, hP, hg⟩ := hI2; have hc0 : w1.cell? ⟨g, 0, none⟩ = some (.slice A (aft l).length c) := blk_cell hblk 0; have hf0 : w1.frozen? ⟨g, 0, none⟩ = false := blk_frozen hblk 0; have HBK := Aside0.mk hblk; have HG := Aside0.mk hg; have HC := Aside0.mk hc; have HR := Aside0.mk hr; have HP := Aside0.mk hP; have HB := Aside0.mk hb2; have HK := Aside0.mk hk2; clear hblk hg hc hr hb2 hk2 hP) | (go_at_call 25; refine (refFail_calls P _ g (aft l) (badOf l bad) HI2.out).mono ?_; rintro e w2 ⟨rfl, hI3, hb2, hk2⟩; have n1_ := Aside0.mk hI3; have n2_ := Aside0.mk (HB.out.trans hb2); have n3_ := Aside0.mk (keep_step HK.out hk2); clear hI3 hb2 hk2))
      go_ret
      exact ⟨rfl, n1_.out, n2_.out, n3_.out⟩
    · have e2 : decide (((aft l).length : Int) < x) = false := decide_eq_false hbig
      obtain ⟨n, rfl⟩ := Int.eq_ofNat_of_zero_le (show 0 ≤ x by omega)
      obtain ⟨t1, t2, t3⟩ := textEnd (l := l) n hx (by omega) bad
      rw [t1, t2, t3]
      have hna : n ≤ (aft l).length := by omega
      go_enter Try.func21, Try.ntmps21
      go_wp2_with (first | (go_at_call 22; refine (refNum_calls' (n : Int) P w g l bad hI hb hx).mono ?_; rintro e w1 ⟨rfl, hI2, hb2, hk2⟩; have HI2 := Aside0.mk hI2; obtain ⟨A, c, hblk, hc, hr, hP, hg⟩ := hI2; have hc0 : w1.cell? ⟨g, 0, none⟩ = some (.slice A (aft l).length c) := blk_cell hblk 0; have hf0 : w1.frozen? ⟨g, 0, none⟩ = false := blk_frozen hblk 0; have HBK := Aside0.mk hblk; have HG := Aside0.mk hg; have HC := Aside0.mk hc; have HR := Aside0.mk hr; have HP := Aside0.mk hP; have HB := Aside0.mk hb2; have HK := Aside0.mk hk2; clear hblk hg hc hr hb2 hk2 hP; have hnc : n ≤ c := (by have := HC.out; omega); have hcv := Kd.C_string (P := Try.prog) (c := c) Try.underlying23 Try.underlying5 Try.underlying9 (take_C HR.out hna); obtain ⟨i0, hi0, hi1⟩ := info_size; obtain ⟨A', hcut, hA', hAb⟩ := cutL (P := Try.prog) 23 5 .i64 Try.underlying23 hi0 hi1 A (aft l).length c n hna; have HA := Aside0.mk (hA' w1 (aft l) HC.out HR.out); have HAB := Aside0.mk hAb; clear hA' hi0 hi1 hAb))
      go_ret
      have hs := blk_set HBK.out 0 (.slice A' ((aft l).length - n) (c - n))
      have hbl : ∀ ad, A' = some ad → 0 < ((aft l).drop n).length → P ad.block := fun ad e hn => by
        obtain ⟨ad0, h1, h2⟩ := HAB.out ad e
        rw [h2]; exact HP.out ad0 h1 (by rw [List.length_drop] at hn; omega)
      refine ⟨rfl, ⟨A', c - n, by simpa using hs, by simp only [List.length_drop]; (have := HC.out; omega), Kd.C_keep (0 : Int) (by simp only [List.length_drop]; exact HA.out) ((KeepBut.refl w1 g none).set_ 0 _) (fun ad e hn he => HG.out (he ▸ hbl ad e hn)), hbl, HG.out⟩, belowSet HB.out _, HK.out.set_ 0 _⟩
end Go.Proofs.Ytnkaighdajickaa.Num

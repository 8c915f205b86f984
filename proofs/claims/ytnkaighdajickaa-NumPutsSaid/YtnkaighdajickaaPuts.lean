/- The statement NumPuts: the walk of the law. -/
import Derived.Test.YtnkaighdajickaaN4
namespace Go.Proofs.Ytnkaighdajickaa.Num
open Go.RowKit Go.Proofs.YtnkaighdajickaaW.PrintWords Go.Proofs.YtnkaighdajickaaW.PrintLast Go.Proofs.YtnkaighdajickaaW.PrintMore
set_option linter.unusedVariables false
set_option linter.unusedSimpArgs false

open Go.Proofs.YtnkaighdajickaaW.PrintLast
def D5.T6 : Bool × List (List Nat × List Nat) := (true, [([], []), ([0], [0]), ([1], [1]), ([1], [1]), ([2, 3, 1, 1], [1, 2, 3]), ([1], [1]), ([4, 5, 4, 1], [1, 4, 5]), ([6, 1], [1, 6]), ([1], [1]), ([1], [1]), ([8, 9, 6, 1], [1, 8, 9]), ([10, 1], [1, 10]), ([7, 11, 1], [1, 7, 11]), ([1, 12], [1, 12]), ([13, 10], [13]), ([14], [14]), ([14], [14]), ([15, 16, 14, 14], [14, 15, 16]), ([14], [14]), ([17, 18, 17, 14], [14, 17, 18]), ([19, 14], [14, 19]), ([14], [14]), ([14], [14]), ([21, 22, 19, 14], [14, 21, 22]), ([23, 14], [14, 23]), ([20, 24, 14], [14, 20, 24]), ([14, 25], [14, 25]), ([26, 23, 0, 1, 2, 3, 4, 5, 6, 7, 8, 9, 10, 11, 12, 13, 14, 15, 16, 17, 18, 19, 20, 21, 22, 23, 24, 25, 26], [26])])
def D5.B6 : List Nat := [0, 1, 3, 3, 15, 3, 63, 127, 3, 3, 895, 1919, 4095, 8191, 16383, 32767, 32767, 131071, 32767, 524287, 1048575, 32767, 32767, 7340031, 15728639, 33554431, 67108863, 134217727]
theorem D5.tab6 : rtab .any (opsOf Try.f5 6) = D5.T6 := by kernel_rfl
theorem D5.bits6 : waitsOk D5.T6.2 D5.B6 = true := by kernel_rfl
theorem puts_law (A0 : Option Addr) (len cap : Nat) (z : List Int) (x : Int) (s : ByteArray) (w : World)
    (w0 : (A0 = none ∧ len = 0 ∧ cap = 0 ∧ z = []) ∨ ∃ x, A0 = some x ∧ len ≤ cap ∧ cap ≤ maxLen ∧ z.length = cap ∧ (∀ i, i < z.length → w.cell? (x.add i) = some (.int .u8 (z.getD i 0))) ∧ ∀ n ∈ z, (Lit.int .u8 n).wf = true) (y0 : len * 1 ≤ 140737488351232)
    (wx : (Lit.int .i64 x).wf = true) (ws : s.size ≤ 140737488351232) :
    Calls Try.prog 5 #[.slice A0 len cap, .int .i64 x, .string s] w fun e w' => e = .returned (.bool true) ∧ Below w.heap.size w w' := by
  obtain ⟨hx1, hx2⟩ := wf_range wx
  obtain ⟨l, rfl, hr, hm, hw, hc⟩ := ReadsInt.ofRowC w0
  have hC := Kd.C_of_reads (d := (0 : Int)) (h1 := fun _ => rfl) hr
  have HR0 := Aside0.mk hC
  have HBY := Aside0.mk (isBytes_wf hw)
  clear w0 hr hw hC
  go_enter Try.func5, Try.ntmps5
  go_upto_if 11 with ((go_at_call 11; refine (shown_calls _).mono ?_; rintro e w1 ⟨rfl, hb⟩; have HB := Aside0.mk hb; clear hb))
  obtain ⟨n, hn⟩ : ∃ n, n = min 100 l.length := ⟨_, rfl⟩
  have hn1 : n ≤ 100 := by omega
  have hn2 : n ≤ l.length := by omega
  go_cut [0] (fun v0 wc => v0 = .slice A0 n cap ∧ w1 = wc)
  case first =>
    by_cases h60 : 100 < l.length
    · have e : n = 100 := by omega
      subst e
      clear hn
      go_wp2
      go_meet
      case rel => exact ⟨rfl, rfl⟩
    · have e : n = l.length := by omega
      subst e
      clear hn
      go_wp2
      go_meet
      case rel => exact ⟨rfl, rfl⟩
  case rest =>
  obtain ⟨rfl, rfl⟩ := hcut
  have hcap : n ≤ cap := by omega
  obtain ⟨lb, hlb⟩ : ∃ lb, lb = l.take n := ⟨_, rfl⟩
  have hlen : lb.length = n := by rw [hlb, List.length_take]; omega
  have HLB := Aside0.mk (show (Kd.int .u8).C w A0 lb.length lb by rw [hlen, hlb]; exact take_C HR0.out hn2)
  have HBY2 := Aside0.mk (show isBytes lb by rw [hlb]; exact isBytes_take HBY.out n)
  clear hlb hn HR0 HBY
  subst hlen
  go_upto_if 16 with (fail)
  obtain ⟨t, ht⟩ : ∃ t, t = s.extract 0 (min 300 s.size) := ⟨_, rfl⟩
  have ht1 : t.size ≤ 300 := by rw [ht, ByteArray.size_extract]; omega
  go_cut [2] (fun v2 wc => v2 = .string t ∧ w1 = wc)
  case first =>
    by_cases h300 : 300 < s.size
    · rw [Nat.min_eq_left (by omega)] at ht
      have HT := Aside0.mk ht
      clear ht
      go_wp2
      go_meet
      case rel => exact ⟨by rw [HT.out], rfl⟩
    · rw [Nat.min_eq_right (by omega), ByteArray.extract_zero_size] at ht
      subst ht
      go_wp2
      go_meet
      case rel => exact ⟨rfl, rfl⟩
  case rest =>
  obtain ⟨rfl, rfl⟩ := hcut
  clear ht
  obtain ⟨l1, h1⟩ : ∃ l1, l1 = lb ++ enc x := ⟨_, rfl⟩
  obtain ⟨l2, h2⟩ : ∃ l2, l2 = lb ++ encT (bytesOf t) := ⟨_, rfl⟩
  have H1 := Aside0.mk h1
  have H2 := Aside0.mk h2
  clear h1 h2
  have n1_ := Aside0.mk (Kd.C_below HLB.out HB.out)
  clear HLB
  have HLB := n1_
  clear n1_
  have HBB := Aside0.mk (below_drew (Below.refl w1.heap.size w1))
  go_wp2_with fail
  refine start_ (n := 28) (S := fun w' => True) (ds := []) #[false, false, false, false, false, false, false, false, false, false, false, false, false, false, false, false, false, false, false, false, false, false, false, false, false, false, false, false] (by kernel_rfl) rfl rfl trivial (fun hHeld => ?_); refine with_tabW D5.tab6 D5.bits6 (fun HT_ HW_ => ?_)
  refine inv_at [0, 1, 2, 3, 4, 5, 6, 7, 8, 9, 10, 11, 12, 13, 14, 15, 16, 17, 18, 19, 20, 21, 22, 23, 24, 25, 26, 27] (fun a0_ b a w' => ∃ (g21 : Nat) (g34 : Nat) (B23 : Option Addr) (d23 : Nat) (B25 : Option Addr) (d25 : Nat) (B29 : Option Addr) (d29 : Nat) (B36 : Option Addr) (d36 : Nat) (B38 : Option Addr) (d38 : Nat) (B42 : Option Addr) (d42 : Nat) (m2_ : Value) (m4_ : Value) (m6_ : Value) (m10_ : Value) (m15_ : Value) (m17_ : Value) (m19_ : Value) (m23_ : Value), a = putSel a0_ b [(0, 19, .bool true), (1, 20, .bool true), (2, 21, m2_), (3, 22, .slice A0 lb.length cap), (4, 23, m4_), (5, 24, .int .i64 x), (6, 25, m6_), (7, 26, .string (strOfNums l1)), (8, 27, .slice A0 lb.length cap), (9, 28, .int .i64 x), (10, 29, m10_), (11, 30, .string (strOfNums l1)), (12, 31, .bool true), (13, 32, .bool true), (14, 33, .bool true), (15, 34, m15_), (16, 35, .slice A0 lb.length cap), (17, 36, m17_), (18, 37, .string t), (19, 38, m19_), (20, 39, .string (strOfNums l2)), (21, 40, .slice A0 lb.length cap), (22, 41, .string t), (23, 42, m23_), (24, 43, .string (strOfNums l2)), (25, 44, .bool true), (26, 45, .bool true), (27, 6, .bool true)] ∧ (Below w1.heap.size w1 w') ∧ (b 4 = true → (Kd.int .u8).C w' B23 lb.length lb) ∧ (b 4 = true → lb.length ≤ d23) ∧ (b 6 = true → (Kd.int .u8).C w' B25 l1.length l1) ∧ (b 10 = true → (Kd.int .u8).C w' B29 l1.length l1) ∧ (b 17 = true → (Kd.int .u8).C w' B36 lb.length lb) ∧ (b 17 = true → lb.length ≤ d36) ∧ (b 19 = true → (Kd.int .u8).C w' B38 l2.length l2) ∧ (b 23 = true → (Kd.int .u8).C w' B42 l2.length l2) ∧ (b 2 = true → (m2_ : Value) = .slice (some ⟨g21, 0, none⟩) 0 0) ∧ (b 4 = true → (m4_ : Value) = .slice B23 lb.length d23) ∧ (b 6 = true → (m6_ : Value) = .slice B25 l1.length d25) ∧ (b 10 = true → (m10_ : Value) = .slice B29 l1.length d29) ∧ (b 15 = true → (m15_ : Value) = .slice (some ⟨g34, 0, none⟩) 0 0) ∧ (b 17 = true → (m17_ : Value) = .slice B36 lb.length d36) ∧ (b 19 = true → (m19_ : Value) = .slice B38 l2.length d38) ∧ (b 23 = true → (m23_ : Value) = .slice B42 l2.length d42)) HT_.out HW_.out (by kernel_rfl) (by kernel_rfl) ?_ ?_ ?_
  · exact ⟨0, 0, none, 0, none, 0, none, 0, none, 0, none, 0, none, 0, .bool false, .bool false, .bool false, .bool false, .bool false, .bool false, .bool false, .bool false, by simp only [putSel, Bool.false_eq_true, if_false], HBB.out, fun h_ => absurd h_ (by decide), fun h_ => absurd h_ (by decide), fun h_ => absurd h_ (by decide), fun h_ => absurd h_ (by decide), fun h_ => absurd h_ (by decide), fun h_ => absurd h_ (by decide), fun h_ => absurd h_ (by decide), fun h_ => absurd h_ (by decide), fun h_ => absurd h_ (by decide), fun h_ => absurd h_ (by decide), fun h_ => absurd h_ (by decide), fun h_ => absurd h_ (by decide), fun h_ => absurd h_ (by decide), fun h_ => absurd h_ (by decide), fun h_ => absurd h_ (by decide), fun h_ => absurd h_ (by decide)⟩
  · clear HT_ HW_ hHeld
    clear HBB
    refine steps_cons ?_ ?_
    · intro b a w' hI_ hb_ hon hoff
      refine ⟨_, rfl, fun K hK => ?_⟩
      obtain ⟨g21, g34, B23, d23, B25, d25, B29, d29, B36, d36, B38, d38, B42, d42, m2_, m4_, m6_, m10_, m15_, m17_, m19_, m23_, ha, Q_HBB, Q_HC23, Q_HD23, Q_HC25, Q_HC29, Q_HC36, Q_HD36, Q_HC38, Q_HC42, Q_X2_, Q_X4_, Q_X6_, Q_X10_, Q_X15_, Q_X17_, Q_X19_, Q_X23_⟩ := hI_
      have e7 : a.tmps[7]? = some (.bool true) := by rw [ha]; exact (putSel_off rfl).trans rfl
      replace ha := Aside0.mk ha
      have HBB := Aside0.mk Q_HBB
      refine value_ (w1 := w') (v := .bool true) (by rfl) rfl ?_ ?_
      · go_simp
        (try simp only [i64_w])
        try rfl
      refine hK.out _ _ ⟨g21, g34, B23, d23, B25, d25, B29, d29, B36, d36, B38, d38, B42, d42, m2_, m4_, m6_, m10_, m15_, m17_, m19_, m23_, (by rw [ha.out]; exact putSel_upk 0 hb_ rfl rfl rfl), Q_HBB, fun h0_ => absurd ((hoff 4 (by kernel_rfl)).symm.trans h0_) (by decide), fun h0_ => absurd ((hoff 4 (by kernel_rfl)).symm.trans h0_) (by decide), fun h0_ => absurd ((hoff 6 (by kernel_rfl)).symm.trans h0_) (by decide), fun h0_ => absurd ((hoff 10 (by kernel_rfl)).symm.trans h0_) (by decide), fun h0_ => absurd ((hoff 17 (by kernel_rfl)).symm.trans h0_) (by decide), fun h0_ => absurd ((hoff 17 (by kernel_rfl)).symm.trans h0_) (by decide), fun h0_ => absurd ((hoff 19 (by kernel_rfl)).symm.trans h0_) (by decide), fun h0_ => absurd ((hoff 23 (by kernel_rfl)).symm.trans h0_) (by decide), fun h0_ => absurd ((hoff 2 (by kernel_rfl)).symm.trans h0_) (by decide), fun h0_ => absurd ((hoff 4 (by kernel_rfl)).symm.trans h0_) (by decide), fun h0_ => absurd ((hoff 6 (by kernel_rfl)).symm.trans h0_) (by decide), fun h0_ => absurd ((hoff 10 (by kernel_rfl)).symm.trans h0_) (by decide), fun h0_ => absurd ((hoff 15 (by kernel_rfl)).symm.trans h0_) (by decide), fun h0_ => absurd ((hoff 17 (by kernel_rfl)).symm.trans h0_) (by decide), fun h0_ => absurd ((hoff 19 (by kernel_rfl)).symm.trans h0_) (by decide), fun h0_ => absurd ((hoff 23 (by kernel_rfl)).symm.trans h0_) (by decide)⟩
    refine steps_cons ?_ ?_
    · intro b a w' hI_ hb_ hon hoff
      refine ⟨_, rfl, fun K hK => ?_⟩
      obtain ⟨g21, g34, B23, d23, B25, d25, B29, d29, B36, d36, B38, d38, B42, d42, m2_, m4_, m6_, m10_, m15_, m17_, m19_, m23_, ha, Q_HBB, Q_HC23, Q_HD23, Q_HC25, Q_HC29, Q_HC36, Q_HD36, Q_HC38, Q_HC42, Q_X2_, Q_X4_, Q_X6_, Q_X10_, Q_X15_, Q_X17_, Q_X19_, Q_X23_⟩ := hI_
      have e19 : a.tmps[19]? = some (.bool true) := by rw [ha]; exact putSel_on (e := (0, 19, .bool true)) 0 rfl rfl (hon 0 (by kernel_rfl)) rfl
      replace ha := Aside0.mk ha
      have HBB := Aside0.mk Q_HBB
      refine value_ (w1 := w') (v := .bool true) (by rfl) rfl ?_ ?_
      · go_simp
        (try simp only [i64_w])
        try rfl
      refine hK.out _ _ ⟨g21, g34, B23, d23, B25, d25, B29, d29, B36, d36, B38, d38, B42, d42, m2_, m4_, m6_, m10_, m15_, m17_, m19_, m23_, (by rw [ha.out]; exact putSel_upk 1 hb_ rfl rfl rfl), Q_HBB, fun h0_ => absurd ((hoff 4 (by kernel_rfl)).symm.trans h0_) (by decide), fun h0_ => absurd ((hoff 4 (by kernel_rfl)).symm.trans h0_) (by decide), fun h0_ => absurd ((hoff 6 (by kernel_rfl)).symm.trans h0_) (by decide), fun h0_ => absurd ((hoff 10 (by kernel_rfl)).symm.trans h0_) (by decide), fun h0_ => absurd ((hoff 17 (by kernel_rfl)).symm.trans h0_) (by decide), fun h0_ => absurd ((hoff 17 (by kernel_rfl)).symm.trans h0_) (by decide), fun h0_ => absurd ((hoff 19 (by kernel_rfl)).symm.trans h0_) (by decide), fun h0_ => absurd ((hoff 23 (by kernel_rfl)).symm.trans h0_) (by decide), fun h0_ => absurd ((hoff 2 (by kernel_rfl)).symm.trans h0_) (by decide), fun h0_ => absurd ((hoff 4 (by kernel_rfl)).symm.trans h0_) (by decide), fun h0_ => absurd ((hoff 6 (by kernel_rfl)).symm.trans h0_) (by decide), fun h0_ => absurd ((hoff 10 (by kernel_rfl)).symm.trans h0_) (by decide), fun h0_ => absurd ((hoff 15 (by kernel_rfl)).symm.trans h0_) (by decide), fun h0_ => absurd ((hoff 17 (by kernel_rfl)).symm.trans h0_) (by decide), fun h0_ => absurd ((hoff 19 (by kernel_rfl)).symm.trans h0_) (by decide), fun h0_ => absurd ((hoff 23 (by kernel_rfl)).symm.trans h0_) (by decide)⟩
    refine steps_cons ?_ ?_
    · intro b a w' hI_ hb_ hon hoff
      refine ⟨_, rfl, fun K hK => ?_⟩
      obtain ⟨g21, g34, B23, d23, B25, d25, B29, d29, B36, d36, B38, d38, B42, d42, m2_, m4_, m6_, m10_, m15_, m17_, m19_, m23_, ha, Q_HBB, Q_HC23, Q_HD23, Q_HC25, Q_HC29, Q_HC36, Q_HD36, Q_HC38, Q_HC42, Q_X2_, Q_X4_, Q_X6_, Q_X10_, Q_X15_, Q_X17_, Q_X19_, Q_X23_⟩ := hI_
      have e20 : a.tmps[20]? = some (.bool true) := by rw [ha]; exact putSel_on (e := (1, 20, .bool true)) 1 rfl rfl (hon 1 (by kernel_rfl)) rfl
      replace ha := Aside0.mk ha
      have HBB := Aside0.mk Q_HBB
      refine event_step (wanted_on rfl rfl rfl (e20.trans (by first | rfl | (simp [*]; done)))) (v := .slice (some ⟨w'.heap.size, 0, none⟩) 0 0) (w1 := w'.alloc (.cells #[] 5)) ?_ ?_
      · first | (go_simp; done) | (go_simp; rfl)
      refine hK.out _ _ ⟨w'.heap.size, g34, B23, d23, B25, d25, B29, d29, B36, d36, B38, d38, B42, d42, (.slice (some ⟨w'.heap.size, 0, none⟩) 0 0), m4_, m6_, m10_, m15_, m17_, m19_, m23_, (by rw [ha.out]; exact putSel_upk 2 hb_ rfl rfl rfl), below_alloc HBB.out _, fun h0_ => absurd ((hoff 4 (by kernel_rfl)).symm.trans h0_) (by decide), fun h0_ => absurd ((hoff 4 (by kernel_rfl)).symm.trans h0_) (by decide), fun h0_ => absurd ((hoff 6 (by kernel_rfl)).symm.trans h0_) (by decide), fun h0_ => absurd ((hoff 10 (by kernel_rfl)).symm.trans h0_) (by decide), fun h0_ => absurd ((hoff 17 (by kernel_rfl)).symm.trans h0_) (by decide), fun h0_ => absurd ((hoff 17 (by kernel_rfl)).symm.trans h0_) (by decide), fun h0_ => absurd ((hoff 19 (by kernel_rfl)).symm.trans h0_) (by decide), fun h0_ => absurd ((hoff 23 (by kernel_rfl)).symm.trans h0_) (by decide), fun _ => rfl, fun h0_ => absurd ((hoff 4 (by kernel_rfl)).symm.trans h0_) (by decide), fun h0_ => absurd ((hoff 6 (by kernel_rfl)).symm.trans h0_) (by decide), fun h0_ => absurd ((hoff 10 (by kernel_rfl)).symm.trans h0_) (by decide), fun h0_ => absurd ((hoff 15 (by kernel_rfl)).symm.trans h0_) (by decide), fun h0_ => absurd ((hoff 17 (by kernel_rfl)).symm.trans h0_) (by decide), fun h0_ => absurd ((hoff 19 (by kernel_rfl)).symm.trans h0_) (by decide), fun h0_ => absurd ((hoff 23 (by kernel_rfl)).symm.trans h0_) (by decide)⟩
    refine steps_cons ?_ ?_
    · intro b a w' hI_ hb_ hon hoff
      refine ⟨_, rfl, fun K hK => ?_⟩
      obtain ⟨g21, g34, B23, d23, B25, d25, B29, d29, B36, d36, B38, d38, B42, d42, m2_, m4_, m6_, m10_, m15_, m17_, m19_, m23_, ha, Q_HBB, Q_HC23, Q_HD23, Q_HC25, Q_HC29, Q_HC36, Q_HD36, Q_HC38, Q_HC42, Q_X2_, Q_X4_, Q_X6_, Q_X10_, Q_X15_, Q_X17_, Q_X19_, Q_X23_⟩ := hI_
      have e0 : a.tmps[0]? = some (.slice A0 lb.length cap) := by rw [ha]; exact (putSel_off rfl).trans rfl
      have e20 : a.tmps[20]? = some (.bool true) := by rw [ha]; exact putSel_on (e := (1, 20, .bool true)) 1 rfl rfl (hon 1 (by kernel_rfl)) rfl
      replace ha := Aside0.mk ha
      have HBB := Aside0.mk Q_HBB
      refine value_ (w1 := w') (v := .slice A0 lb.length cap) (wanted_on rfl rfl rfl (e20.trans (by first | rfl | (simp [*]; done)))) rfl ?_ ?_
      · go_simp
        (try simp only [i64_w])
        try rfl
      refine hK.out _ _ ⟨g21, g34, B23, d23, B25, d25, B29, d29, B36, d36, B38, d38, B42, d42, m2_, m4_, m6_, m10_, m15_, m17_, m19_, m23_, (by rw [ha.out]; exact putSel_upk 3 hb_ rfl rfl rfl), Q_HBB, fun h0_ => absurd ((hoff 4 (by kernel_rfl)).symm.trans h0_) (by decide), fun h0_ => absurd ((hoff 4 (by kernel_rfl)).symm.trans h0_) (by decide), fun h0_ => absurd ((hoff 6 (by kernel_rfl)).symm.trans h0_) (by decide), fun h0_ => absurd ((hoff 10 (by kernel_rfl)).symm.trans h0_) (by decide), fun h0_ => absurd ((hoff 17 (by kernel_rfl)).symm.trans h0_) (by decide), fun h0_ => absurd ((hoff 17 (by kernel_rfl)).symm.trans h0_) (by decide), fun h0_ => absurd ((hoff 19 (by kernel_rfl)).symm.trans h0_) (by decide), fun h0_ => absurd ((hoff 23 (by kernel_rfl)).symm.trans h0_) (by decide), Q_X2_, fun h0_ => absurd ((hoff 4 (by kernel_rfl)).symm.trans h0_) (by decide), fun h0_ => absurd ((hoff 6 (by kernel_rfl)).symm.trans h0_) (by decide), fun h0_ => absurd ((hoff 10 (by kernel_rfl)).symm.trans h0_) (by decide), fun h0_ => absurd ((hoff 15 (by kernel_rfl)).symm.trans h0_) (by decide), fun h0_ => absurd ((hoff 17 (by kernel_rfl)).symm.trans h0_) (by decide), fun h0_ => absurd ((hoff 19 (by kernel_rfl)).symm.trans h0_) (by decide), fun h0_ => absurd ((hoff 23 (by kernel_rfl)).symm.trans h0_) (by decide)⟩
    refine steps_cons ?_ ?_
    · intro b a w' hI_ hb_ hon hoff
      refine ⟨_, rfl, fun K hK => ?_⟩
      obtain ⟨g21, g34, B23, d23, B25, d25, B29, d29, B36, d36, B38, d38, B42, d42, m2_, m4_, m6_, m10_, m15_, m17_, m19_, m23_, ha, Q_HBB, Q_HC23, Q_HD23, Q_HC25, Q_HC29, Q_HC36, Q_HD36, Q_HC38, Q_HC42, Q_X2_, Q_X4_, Q_X6_, Q_X10_, Q_X15_, Q_X17_, Q_X19_, Q_X23_⟩ := hI_
      have e21 : a.tmps[21]? = some (m2_) := by rw [ha]; exact putSel_on (e := (2, 21, m2_)) 2 rfl rfl (hon 2 (by kernel_rfl)) rfl
      rw [Q_X2_ (hon 2 (by kernel_rfl))] at e21
      have e22 : a.tmps[22]? = some (.slice A0 lb.length cap) := by rw [ha]; exact putSel_on (e := (3, 22, .slice A0 lb.length cap)) 3 rfl rfl (hon 3 (by kernel_rfl)) rfl
      have e20 : a.tmps[20]? = some (.bool true) := by rw [ha]; exact putSel_on (e := (1, 20, .bool true)) 1 rfl rfl (hon 1 (by kernel_rfl)) rfl
      replace ha := Aside0.mk ha
      have HBB := Aside0.mk Q_HBB
      refine Gen.fresh_step (Kd.int .u8) (wanted_on rfl rfl rfl (e20.trans (by first | rfl | (simp [*]; done)))) (.tmp 21) (.tmp 22) 23 5 (.int .u8 0) 1 rfl Try.underlying23 info_u8 (by decide) (by decide) g21 _ _ _ lb (eval_of e21) (eval_of e22) (Kd.C_below HLB.out HBB.out) (by omega) ?_
      intro A_ c_ w3 hc_ hC_ hb_2
      refine hK.out _ _ ⟨g21, g34, A_, c_, B25, d25, B29, d29, B36, d36, B38, d38, B42, d42, m2_, (.slice A_ lb.length c_), m6_, m10_, m15_, m17_, m19_, m23_, (by rw [ha.out]; exact putSel_upk 4 hb_ rfl rfl rfl), below_step HBB.out hb_2, fun _ => hC_, fun _ => hc_, fun h0_ => absurd ((hoff 6 (by kernel_rfl)).symm.trans h0_) (by decide), fun h0_ => absurd ((hoff 10 (by kernel_rfl)).symm.trans h0_) (by decide), fun h0_ => absurd ((hoff 17 (by kernel_rfl)).symm.trans h0_) (by decide), fun h0_ => absurd ((hoff 17 (by kernel_rfl)).symm.trans h0_) (by decide), fun h0_ => absurd ((hoff 19 (by kernel_rfl)).symm.trans h0_) (by decide), fun h0_ => absurd ((hoff 23 (by kernel_rfl)).symm.trans h0_) (by decide), Q_X2_, fun _ => rfl, fun h0_ => absurd ((hoff 6 (by kernel_rfl)).symm.trans h0_) (by decide), fun h0_ => absurd ((hoff 10 (by kernel_rfl)).symm.trans h0_) (by decide), fun h0_ => absurd ((hoff 15 (by kernel_rfl)).symm.trans h0_) (by decide), fun h0_ => absurd ((hoff 17 (by kernel_rfl)).symm.trans h0_) (by decide), fun h0_ => absurd ((hoff 19 (by kernel_rfl)).symm.trans h0_) (by decide), fun h0_ => absurd ((hoff 23 (by kernel_rfl)).symm.trans h0_) (by decide)⟩
    refine steps_cons ?_ ?_
    · intro b a w' hI_ hb_ hon hoff
      refine ⟨_, rfl, fun K hK => ?_⟩
      obtain ⟨g21, g34, B23, d23, B25, d25, B29, d29, B36, d36, B38, d38, B42, d42, m2_, m4_, m6_, m10_, m15_, m17_, m19_, m23_, ha, Q_HBB, Q_HC23, Q_HD23, Q_HC25, Q_HC29, Q_HC36, Q_HD36, Q_HC38, Q_HC42, Q_X2_, Q_X4_, Q_X6_, Q_X10_, Q_X15_, Q_X17_, Q_X19_, Q_X23_⟩ := hI_
      have e1 : a.tmps[1]? = some (.int .i64 x) := by rw [ha]; exact (putSel_off rfl).trans rfl
      have e20 : a.tmps[20]? = some (.bool true) := by rw [ha]; exact putSel_on (e := (1, 20, .bool true)) 1 rfl rfl (hon 1 (by kernel_rfl)) rfl
      replace ha := Aside0.mk ha
      have HBB := Aside0.mk Q_HBB
      refine value_ (w1 := w') (v := .int .i64 x) (wanted_on rfl rfl rfl (e20.trans (by first | rfl | (simp [*]; done)))) rfl ?_ ?_
      · go_simp
        (try simp only [i64_w])
        try rfl
      refine hK.out _ _ ⟨g21, g34, B23, d23, B25, d25, B29, d29, B36, d36, B38, d38, B42, d42, m2_, m4_, m6_, m10_, m15_, m17_, m19_, m23_, (by rw [ha.out]; exact putSel_upk 5 hb_ rfl rfl rfl), Q_HBB, Q_HC23, Q_HD23, fun h0_ => absurd ((hoff 6 (by kernel_rfl)).symm.trans h0_) (by decide), fun h0_ => absurd ((hoff 10 (by kernel_rfl)).symm.trans h0_) (by decide), fun h0_ => absurd ((hoff 17 (by kernel_rfl)).symm.trans h0_) (by decide), fun h0_ => absurd ((hoff 17 (by kernel_rfl)).symm.trans h0_) (by decide), fun h0_ => absurd ((hoff 19 (by kernel_rfl)).symm.trans h0_) (by decide), fun h0_ => absurd ((hoff 23 (by kernel_rfl)).symm.trans h0_) (by decide), Q_X2_, Q_X4_, fun h0_ => absurd ((hoff 6 (by kernel_rfl)).symm.trans h0_) (by decide), fun h0_ => absurd ((hoff 10 (by kernel_rfl)).symm.trans h0_) (by decide), fun h0_ => absurd ((hoff 15 (by kernel_rfl)).symm.trans h0_) (by decide), fun h0_ => absurd ((hoff 17 (by kernel_rfl)).symm.trans h0_) (by decide), fun h0_ => absurd ((hoff 19 (by kernel_rfl)).symm.trans h0_) (by decide), fun h0_ => absurd ((hoff 23 (by kernel_rfl)).symm.trans h0_) (by decide)⟩
    refine steps_cons ?_ ?_
    · intro b a w' hI_ hb_ hon hoff
      refine ⟨_, rfl, fun K hK => ?_⟩
      obtain ⟨g21, g34, B23, d23, B25, d25, B29, d29, B36, d36, B38, d38, B42, d42, m2_, m4_, m6_, m10_, m15_, m17_, m19_, m23_, ha, Q_HBB, Q_HC23, Q_HD23, Q_HC25, Q_HC29, Q_HC36, Q_HD36, Q_HC38, Q_HC42, Q_X2_, Q_X4_, Q_X6_, Q_X10_, Q_X15_, Q_X17_, Q_X19_, Q_X23_⟩ := hI_
      have e23 : a.tmps[23]? = some (m4_) := by rw [ha]; exact putSel_on (e := (4, 23, m4_)) 4 rfl rfl (hon 4 (by kernel_rfl)) rfl
      rw [Q_X4_ (hon 4 (by kernel_rfl))] at e23
      have e24 : a.tmps[24]? = some (.int .i64 x) := by rw [ha]; exact putSel_on (e := (5, 24, .int .i64 x)) 5 rfl rfl (hon 5 (by kernel_rfl)) rfl
      have e20 : a.tmps[20]? = some (.bool true) := by rw [ha]; exact putSel_on (e := (1, 20, .bool true)) 1 rfl rfl (hon 1 (by kernel_rfl)) rfl
      replace ha := Aside0.mk ha
      have HBB := Aside0.mk Q_HBB
      have HC23 := Aside0.mk (Q_HC23 (hon 4 (by kernel_rfl)))
      have HD23 := Aside0.mk (Q_HD23 (hon 4 (by kernel_rfl)))
      refine goes_ Try.func12 (by kernel_rfl) rfl #[.slice B23 lb.length d23, .int .i64 x] (wanted_on rfl rfl rfl (e20.trans (by first | rfl | (simp [*]; done)))) rfl rfl (by first | (simp only [List.map_toArray, List.map_cons, List.map_nil, Act.eval, Array.getD_eq_getD_getElem?, Option.getD_some, e23, e24, e20]; done) | (simp only [List.map_toArray, List.map_cons, List.map_nil, Act.eval, Array.getD_eq_getD_getElem?, Option.getD_some, e23, e24, e20]; rfl)) ?_
      with_reducible refine (putC l1 B23 d23 lb x _ HC23.out HD23.out (by omega) (by omega) (by omega) H1.out).mono ?_
      rintro e w3 ⟨A_, c_, rfl, hc_, hC_, hb_2⟩
      refine ⟨_, rfl, ?_⟩
      refine hK.out _ _ ⟨g21, g34, B23, d23, A_, c_, B29, d29, B36, d36, B38, d38, B42, d42, m2_, m4_, (.slice A_ l1.length c_), m10_, m15_, m17_, m19_, m23_, (by rw [ha.out]; exact putSel_upk 6 hb_ rfl rfl rfl), below_step HBB.out hb_2, fun _ => Kd.C_below HC23.out hb_2, fun _ => HD23.out, fun _ => hC_, fun h0_ => absurd ((hoff 10 (by kernel_rfl)).symm.trans h0_) (by decide), fun h0_ => absurd ((hoff 17 (by kernel_rfl)).symm.trans h0_) (by decide), fun h0_ => absurd ((hoff 17 (by kernel_rfl)).symm.trans h0_) (by decide), fun h0_ => absurd ((hoff 19 (by kernel_rfl)).symm.trans h0_) (by decide), fun h0_ => absurd ((hoff 23 (by kernel_rfl)).symm.trans h0_) (by decide), Q_X2_, Q_X4_, fun _ => rfl, fun h0_ => absurd ((hoff 10 (by kernel_rfl)).symm.trans h0_) (by decide), fun h0_ => absurd ((hoff 15 (by kernel_rfl)).symm.trans h0_) (by decide), fun h0_ => absurd ((hoff 17 (by kernel_rfl)).symm.trans h0_) (by decide), fun h0_ => absurd ((hoff 19 (by kernel_rfl)).symm.trans h0_) (by decide), fun h0_ => absurd ((hoff 23 (by kernel_rfl)).symm.trans h0_) (by decide)⟩
    refine steps_cons ?_ ?_
    · intro b a w' hI_ hb_ hon hoff
      refine ⟨_, rfl, fun K hK => ?_⟩
      obtain ⟨g21, g34, B23, d23, B25, d25, B29, d29, B36, d36, B38, d38, B42, d42, m2_, m4_, m6_, m10_, m15_, m17_, m19_, m23_, ha, Q_HBB, Q_HC23, Q_HD23, Q_HC25, Q_HC29, Q_HC36, Q_HD36, Q_HC38, Q_HC42, Q_X2_, Q_X4_, Q_X6_, Q_X10_, Q_X15_, Q_X17_, Q_X19_, Q_X23_⟩ := hI_
      have e25 : a.tmps[25]? = some (m6_) := by rw [ha]; exact putSel_on (e := (6, 25, m6_)) 6 rfl rfl (hon 6 (by kernel_rfl)) rfl
      rw [Q_X6_ (hon 6 (by kernel_rfl))] at e25
      have e20 : a.tmps[20]? = some (.bool true) := by rw [ha]; exact putSel_on (e := (1, 20, .bool true)) 1 rfl rfl (hon 1 (by kernel_rfl)) rfl
      replace ha := Aside0.mk ha
      have HBB := Aside0.mk Q_HBB
      have HC23 := Aside0.mk (Q_HC23 (hon 4 (by kernel_rfl)))
      have HD23 := Aside0.mk (Q_HD23 (hon 4 (by kernel_rfl)))
      have HC25 := Aside0.mk (Q_HC25 (hon 6 (by kernel_rfl)))
      have hcv := Kd.C_string (P := Try.prog) (c := d25) Try.underlying23 Try.underlying5 Try.underlying9 HC25.out
      refine value_ (w1 := w') (v := .string (strOfNums l1)) (wanted_on rfl rfl rfl (e20.trans (by first | rfl | (simp [*]; done)))) rfl ?_ ?_
      · go_simp
        (try simp only [i64_w])
        try rfl
      refine hK.out _ _ ⟨g21, g34, B23, d23, B25, d25, B29, d29, B36, d36, B38, d38, B42, d42, m2_, m4_, m6_, m10_, m15_, m17_, m19_, m23_, (by rw [ha.out]; exact putSel_upk 7 hb_ rfl rfl rfl), Q_HBB, Q_HC23, Q_HD23, Q_HC25, Q_HC29, fun h0_ => absurd ((hoff 17 (by kernel_rfl)).symm.trans h0_) (by decide), fun h0_ => absurd ((hoff 17 (by kernel_rfl)).symm.trans h0_) (by decide), fun h0_ => absurd ((hoff 19 (by kernel_rfl)).symm.trans h0_) (by decide), fun h0_ => absurd ((hoff 23 (by kernel_rfl)).symm.trans h0_) (by decide), Q_X2_, Q_X4_, Q_X6_, Q_X10_, fun h0_ => absurd ((hoff 15 (by kernel_rfl)).symm.trans h0_) (by decide), fun h0_ => absurd ((hoff 17 (by kernel_rfl)).symm.trans h0_) (by decide), fun h0_ => absurd ((hoff 19 (by kernel_rfl)).symm.trans h0_) (by decide), fun h0_ => absurd ((hoff 23 (by kernel_rfl)).symm.trans h0_) (by decide)⟩
    refine steps_cons ?_ ?_
    · intro b a w' hI_ hb_ hon hoff
      refine ⟨_, rfl, fun K hK => ?_⟩
      obtain ⟨g21, g34, B23, d23, B25, d25, B29, d29, B36, d36, B38, d38, B42, d42, m2_, m4_, m6_, m10_, m15_, m17_, m19_, m23_, ha, Q_HBB, Q_HC23, Q_HD23, Q_HC25, Q_HC29, Q_HC36, Q_HD36, Q_HC38, Q_HC42, Q_X2_, Q_X4_, Q_X6_, Q_X10_, Q_X15_, Q_X17_, Q_X19_, Q_X23_⟩ := hI_
      have e0 : a.tmps[0]? = some (.slice A0 lb.length cap) := by rw [ha]; exact (putSel_off rfl).trans rfl
      have e20 : a.tmps[20]? = some (.bool true) := by rw [ha]; exact putSel_on (e := (1, 20, .bool true)) 1 rfl rfl (hon 1 (by kernel_rfl)) rfl
      replace ha := Aside0.mk ha
      have HBB := Aside0.mk Q_HBB
      refine value_ (w1 := w') (v := .slice A0 lb.length cap) (wanted_on rfl rfl rfl (e20.trans (by first | rfl | (simp [*]; done)))) rfl ?_ ?_
      · go_simp
        (try simp only [i64_w])
        try rfl
      refine hK.out _ _ ⟨g21, g34, B23, d23, B25, d25, B29, d29, B36, d36, B38, d38, B42, d42, m2_, m4_, m6_, m10_, m15_, m17_, m19_, m23_, (by rw [ha.out]; exact putSel_upk 8 hb_ rfl rfl rfl), Q_HBB, Q_HC23, Q_HD23, Q_HC25, fun h0_ => absurd ((hoff 10 (by kernel_rfl)).symm.trans h0_) (by decide), fun h0_ => absurd ((hoff 17 (by kernel_rfl)).symm.trans h0_) (by decide), fun h0_ => absurd ((hoff 17 (by kernel_rfl)).symm.trans h0_) (by decide), fun h0_ => absurd ((hoff 19 (by kernel_rfl)).symm.trans h0_) (by decide), fun h0_ => absurd ((hoff 23 (by kernel_rfl)).symm.trans h0_) (by decide), Q_X2_, Q_X4_, Q_X6_, fun h0_ => absurd ((hoff 10 (by kernel_rfl)).symm.trans h0_) (by decide), fun h0_ => absurd ((hoff 15 (by kernel_rfl)).symm.trans h0_) (by decide), fun h0_ => absurd ((hoff 17 (by kernel_rfl)).symm.trans h0_) (by decide), fun h0_ => absurd ((hoff 19 (by kernel_rfl)).symm.trans h0_) (by decide), fun h0_ => absurd ((hoff 23 (by kernel_rfl)).symm.trans h0_) (by decide)⟩
    refine steps_cons ?_ ?_
    · intro b a w' hI_ hb_ hon hoff
      refine ⟨_, rfl, fun K hK => ?_⟩
      obtain ⟨g21, g34, B23, d23, B25, d25, B29, d29, B36, d36, B38, d38, B42, d42, m2_, m4_, m6_, m10_, m15_, m17_, m19_, m23_, ha, Q_HBB, Q_HC23, Q_HD23, Q_HC25, Q_HC29, Q_HC36, Q_HD36, Q_HC38, Q_HC42, Q_X2_, Q_X4_, Q_X6_, Q_X10_, Q_X15_, Q_X17_, Q_X19_, Q_X23_⟩ := hI_
      have e1 : a.tmps[1]? = some (.int .i64 x) := by rw [ha]; exact (putSel_off rfl).trans rfl
      have e20 : a.tmps[20]? = some (.bool true) := by rw [ha]; exact putSel_on (e := (1, 20, .bool true)) 1 rfl rfl (hon 1 (by kernel_rfl)) rfl
      replace ha := Aside0.mk ha
      have HBB := Aside0.mk Q_HBB
      refine value_ (w1 := w') (v := .int .i64 x) (wanted_on rfl rfl rfl (e20.trans (by first | rfl | (simp [*]; done)))) rfl ?_ ?_
      · go_simp
        (try simp only [i64_w])
        try rfl
      refine hK.out _ _ ⟨g21, g34, B23, d23, B25, d25, B29, d29, B36, d36, B38, d38, B42, d42, m2_, m4_, m6_, m10_, m15_, m17_, m19_, m23_, (by rw [ha.out]; exact putSel_upk 9 hb_ rfl rfl rfl), Q_HBB, Q_HC23, Q_HD23, Q_HC25, fun h0_ => absurd ((hoff 10 (by kernel_rfl)).symm.trans h0_) (by decide), fun h0_ => absurd ((hoff 17 (by kernel_rfl)).symm.trans h0_) (by decide), fun h0_ => absurd ((hoff 17 (by kernel_rfl)).symm.trans h0_) (by decide), fun h0_ => absurd ((hoff 19 (by kernel_rfl)).symm.trans h0_) (by decide), fun h0_ => absurd ((hoff 23 (by kernel_rfl)).symm.trans h0_) (by decide), Q_X2_, Q_X4_, Q_X6_, fun h0_ => absurd ((hoff 10 (by kernel_rfl)).symm.trans h0_) (by decide), fun h0_ => absurd ((hoff 15 (by kernel_rfl)).symm.trans h0_) (by decide), fun h0_ => absurd ((hoff 17 (by kernel_rfl)).symm.trans h0_) (by decide), fun h0_ => absurd ((hoff 19 (by kernel_rfl)).symm.trans h0_) (by decide), fun h0_ => absurd ((hoff 23 (by kernel_rfl)).symm.trans h0_) (by decide)⟩
    refine steps_cons ?_ ?_
    · intro b a w' hI_ hb_ hon hoff
      refine ⟨_, rfl, fun K hK => ?_⟩
      obtain ⟨g21, g34, B23, d23, B25, d25, B29, d29, B36, d36, B38, d38, B42, d42, m2_, m4_, m6_, m10_, m15_, m17_, m19_, m23_, ha, Q_HBB, Q_HC23, Q_HD23, Q_HC25, Q_HC29, Q_HC36, Q_HD36, Q_HC38, Q_HC42, Q_X2_, Q_X4_, Q_X6_, Q_X10_, Q_X15_, Q_X17_, Q_X19_, Q_X23_⟩ := hI_
      have e27 : a.tmps[27]? = some (.slice A0 lb.length cap) := by rw [ha]; exact putSel_on (e := (8, 27, .slice A0 lb.length cap)) 8 rfl rfl (hon 8 (by kernel_rfl)) rfl
      have e28 : a.tmps[28]? = some (.int .i64 x) := by rw [ha]; exact putSel_on (e := (9, 28, .int .i64 x)) 9 rfl rfl (hon 9 (by kernel_rfl)) rfl
      have e20 : a.tmps[20]? = some (.bool true) := by rw [ha]; exact putSel_on (e := (1, 20, .bool true)) 1 rfl rfl (hon 1 (by kernel_rfl)) rfl
      replace ha := Aside0.mk ha
      have HBB := Aside0.mk Q_HBB
      have HC23 := Aside0.mk (Q_HC23 (hon 4 (by kernel_rfl)))
      have HD23 := Aside0.mk (Q_HD23 (hon 4 (by kernel_rfl)))
      have HC25 := Aside0.mk (Q_HC25 (hon 6 (by kernel_rfl)))
      refine goes_ Try.func13 (by kernel_rfl) rfl #[.slice A0 lb.length cap, .int .i64 x] (wanted_on rfl rfl rfl (e20.trans (by first | rfl | (simp [*]; done)))) rfl rfl (by first | (simp only [List.map_toArray, List.map_cons, List.map_nil, Act.eval, Array.getD_eq_getD_getElem?, Option.getD_some, e27, e28, e20]; done) | (simp only [List.map_toArray, List.map_cons, List.map_nil, Act.eval, Array.getD_eq_getD_getElem?, Option.getD_some, e27, e28, e20]; rfl)) ?_
      with_reducible refine (refPutC l1 A0 cap lb x _ (Kd.C_below HLB.out HBB.out) hcap (by omega) (by omega) (by omega) H1.out).mono ?_
      rintro e w3 ⟨A_, c_, rfl, hc_, hC_, hb_2⟩
      refine ⟨_, rfl, ?_⟩
      refine hK.out _ _ ⟨g21, g34, B23, d23, B25, d25, A_, c_, B36, d36, B38, d38, B42, d42, m2_, m4_, m6_, (.slice A_ l1.length c_), m15_, m17_, m19_, m23_, (by rw [ha.out]; exact putSel_upk 10 hb_ rfl rfl rfl), below_step HBB.out hb_2, fun _ => Kd.C_below HC23.out hb_2, fun _ => HD23.out, fun _ => Kd.C_below HC25.out hb_2, fun _ => hC_, fun h0_ => absurd ((hoff 17 (by kernel_rfl)).symm.trans h0_) (by decide), fun h0_ => absurd ((hoff 17 (by kernel_rfl)).symm.trans h0_) (by decide), fun h0_ => absurd ((hoff 19 (by kernel_rfl)).symm.trans h0_) (by decide), fun h0_ => absurd ((hoff 23 (by kernel_rfl)).symm.trans h0_) (by decide), Q_X2_, Q_X4_, Q_X6_, fun _ => rfl, fun h0_ => absurd ((hoff 15 (by kernel_rfl)).symm.trans h0_) (by decide), fun h0_ => absurd ((hoff 17 (by kernel_rfl)).symm.trans h0_) (by decide), fun h0_ => absurd ((hoff 19 (by kernel_rfl)).symm.trans h0_) (by decide), fun h0_ => absurd ((hoff 23 (by kernel_rfl)).symm.trans h0_) (by decide)⟩
    refine steps_cons ?_ ?_
    · intro b a w' hI_ hb_ hon hoff
      refine ⟨_, rfl, fun K hK => ?_⟩
      obtain ⟨g21, g34, B23, d23, B25, d25, B29, d29, B36, d36, B38, d38, B42, d42, m2_, m4_, m6_, m10_, m15_, m17_, m19_, m23_, ha, Q_HBB, Q_HC23, Q_HD23, Q_HC25, Q_HC29, Q_HC36, Q_HD36, Q_HC38, Q_HC42, Q_X2_, Q_X4_, Q_X6_, Q_X10_, Q_X15_, Q_X17_, Q_X19_, Q_X23_⟩ := hI_
      have e29 : a.tmps[29]? = some (m10_) := by rw [ha]; exact putSel_on (e := (10, 29, m10_)) 10 rfl rfl (hon 10 (by kernel_rfl)) rfl
      rw [Q_X10_ (hon 10 (by kernel_rfl))] at e29
      have e20 : a.tmps[20]? = some (.bool true) := by rw [ha]; exact putSel_on (e := (1, 20, .bool true)) 1 rfl rfl (hon 1 (by kernel_rfl)) rfl
      replace ha := Aside0.mk ha
      have HBB := Aside0.mk Q_HBB
      have HC23 := Aside0.mk (Q_HC23 (hon 4 (by kernel_rfl)))
      have HD23 := Aside0.mk (Q_HD23 (hon 4 (by kernel_rfl)))
      have HC25 := Aside0.mk (Q_HC25 (hon 6 (by kernel_rfl)))
      have HC29 := Aside0.mk (Q_HC29 (hon 10 (by kernel_rfl)))
      have hcv := Kd.C_string (P := Try.prog) (c := d29) Try.underlying23 Try.underlying5 Try.underlying9 HC29.out
      refine value_ (w1 := w') (v := .string (strOfNums l1)) (wanted_on rfl rfl rfl (e20.trans (by first | rfl | (simp [*]; done)))) rfl ?_ ?_
      · go_simp
        (try simp only [i64_w])
        try rfl
      refine hK.out _ _ ⟨g21, g34, B23, d23, B25, d25, B29, d29, B36, d36, B38, d38, B42, d42, m2_, m4_, m6_, m10_, m15_, m17_, m19_, m23_, (by rw [ha.out]; exact putSel_upk 11 hb_ rfl rfl rfl), Q_HBB, Q_HC23, Q_HD23, Q_HC25, Q_HC29, fun h0_ => absurd ((hoff 17 (by kernel_rfl)).symm.trans h0_) (by decide), fun h0_ => absurd ((hoff 17 (by kernel_rfl)).symm.trans h0_) (by decide), fun h0_ => absurd ((hoff 19 (by kernel_rfl)).symm.trans h0_) (by decide), fun h0_ => absurd ((hoff 23 (by kernel_rfl)).symm.trans h0_) (by decide), Q_X2_, Q_X4_, Q_X6_, Q_X10_, fun h0_ => absurd ((hoff 15 (by kernel_rfl)).symm.trans h0_) (by decide), fun h0_ => absurd ((hoff 17 (by kernel_rfl)).symm.trans h0_) (by decide), fun h0_ => absurd ((hoff 19 (by kernel_rfl)).symm.trans h0_) (by decide), fun h0_ => absurd ((hoff 23 (by kernel_rfl)).symm.trans h0_) (by decide)⟩
    refine steps_cons ?_ ?_
    · intro b a w' hI_ hb_ hon hoff
      refine ⟨_, rfl, fun K hK => ?_⟩
      obtain ⟨g21, g34, B23, d23, B25, d25, B29, d29, B36, d36, B38, d38, B42, d42, m2_, m4_, m6_, m10_, m15_, m17_, m19_, m23_, ha, Q_HBB, Q_HC23, Q_HD23, Q_HC25, Q_HC29, Q_HC36, Q_HD36, Q_HC38, Q_HC42, Q_X2_, Q_X4_, Q_X6_, Q_X10_, Q_X15_, Q_X17_, Q_X19_, Q_X23_⟩ := hI_
      have e26 : a.tmps[26]? = some (.string (strOfNums l1)) := by rw [ha]; exact putSel_on (e := (7, 26, .string (strOfNums l1))) 7 rfl rfl (hon 7 (by kernel_rfl)) rfl
      have e30 : a.tmps[30]? = some (.string (strOfNums l1)) := by rw [ha]; exact putSel_on (e := (11, 30, .string (strOfNums l1))) 11 rfl rfl (hon 11 (by kernel_rfl)) rfl
      have e20 : a.tmps[20]? = some (.bool true) := by rw [ha]; exact putSel_on (e := (1, 20, .bool true)) 1 rfl rfl (hon 1 (by kernel_rfl)) rfl
      replace ha := Aside0.mk ha
      have HBB := Aside0.mk Q_HBB
      have HC23 := Aside0.mk (Q_HC23 (hon 4 (by kernel_rfl)))
      have HD23 := Aside0.mk (Q_HD23 (hon 4 (by kernel_rfl)))
      have HC25 := Aside0.mk (Q_HC25 (hon 6 (by kernel_rfl)))
      have HC29 := Aside0.mk (Q_HC29 (hon 10 (by kernel_rfl)))
      refine value_ (w1 := w') (v := .bool true) (wanted_on rfl rfl rfl (e20.trans (by first | rfl | (simp [*]; done)))) rfl ?_ ?_
      · go_simp
        (try simp only [i64_w])
        try rfl
      refine hK.out _ _ ⟨g21, g34, B23, d23, B25, d25, B29, d29, B36, d36, B38, d38, B42, d42, m2_, m4_, m6_, m10_, m15_, m17_, m19_, m23_, (by rw [ha.out]; exact putSel_upk 12 hb_ rfl rfl rfl), Q_HBB, Q_HC23, Q_HD23, Q_HC25, Q_HC29, fun h0_ => absurd ((hoff 17 (by kernel_rfl)).symm.trans h0_) (by decide), fun h0_ => absurd ((hoff 17 (by kernel_rfl)).symm.trans h0_) (by decide), fun h0_ => absurd ((hoff 19 (by kernel_rfl)).symm.trans h0_) (by decide), fun h0_ => absurd ((hoff 23 (by kernel_rfl)).symm.trans h0_) (by decide), Q_X2_, Q_X4_, Q_X6_, Q_X10_, fun h0_ => absurd ((hoff 15 (by kernel_rfl)).symm.trans h0_) (by decide), fun h0_ => absurd ((hoff 17 (by kernel_rfl)).symm.trans h0_) (by decide), fun h0_ => absurd ((hoff 19 (by kernel_rfl)).symm.trans h0_) (by decide), fun h0_ => absurd ((hoff 23 (by kernel_rfl)).symm.trans h0_) (by decide)⟩
    refine steps_cons ?_ ?_
    · intro b a w' hI_ hb_ hon hoff
      refine ⟨_, rfl, fun K hK => ?_⟩
      obtain ⟨g21, g34, B23, d23, B25, d25, B29, d29, B36, d36, B38, d38, B42, d42, m2_, m4_, m6_, m10_, m15_, m17_, m19_, m23_, ha, Q_HBB, Q_HC23, Q_HD23, Q_HC25, Q_HC29, Q_HC36, Q_HD36, Q_HC38, Q_HC42, Q_X2_, Q_X4_, Q_X6_, Q_X10_, Q_X15_, Q_X17_, Q_X19_, Q_X23_⟩ := hI_
      have e20 : a.tmps[20]? = some (.bool true) := by rw [ha]; exact putSel_on (e := (1, 20, .bool true)) 1 rfl rfl (hon 1 (by kernel_rfl)) rfl
      have e31 : a.tmps[31]? = some (.bool true) := by rw [ha]; exact putSel_on (e := (12, 31, .bool true)) 12 rfl rfl (hon 12 (by kernel_rfl)) rfl
      replace ha := Aside0.mk ha
      have HBB := Aside0.mk Q_HBB
      have HC23 := Aside0.mk (Q_HC23 (hon 4 (by kernel_rfl)))
      have HD23 := Aside0.mk (Q_HD23 (hon 4 (by kernel_rfl)))
      have HC25 := Aside0.mk (Q_HC25 (hon 6 (by kernel_rfl)))
      have HC29 := Aside0.mk (Q_HC29 (hon 10 (by kernel_rfl)))
      refine value_ (w1 := w') (v := .bool true) (by rfl) rfl ?_ ?_
      · go_simp
        (try simp only [i64_w])
        try rfl
      refine hK.out _ _ ⟨g21, g34, B23, d23, B25, d25, B29, d29, B36, d36, B38, d38, B42, d42, m2_, m4_, m6_, m10_, m15_, m17_, m19_, m23_, (by rw [ha.out]; exact putSel_upk 13 hb_ rfl rfl rfl), Q_HBB, Q_HC23, Q_HD23, Q_HC25, Q_HC29, fun h0_ => absurd ((hoff 17 (by kernel_rfl)).symm.trans h0_) (by decide), fun h0_ => absurd ((hoff 17 (by kernel_rfl)).symm.trans h0_) (by decide), fun h0_ => absurd ((hoff 19 (by kernel_rfl)).symm.trans h0_) (by decide), fun h0_ => absurd ((hoff 23 (by kernel_rfl)).symm.trans h0_) (by decide), Q_X2_, Q_X4_, Q_X6_, Q_X10_, fun h0_ => absurd ((hoff 15 (by kernel_rfl)).symm.trans h0_) (by decide), fun h0_ => absurd ((hoff 17 (by kernel_rfl)).symm.trans h0_) (by decide), fun h0_ => absurd ((hoff 19 (by kernel_rfl)).symm.trans h0_) (by decide), fun h0_ => absurd ((hoff 23 (by kernel_rfl)).symm.trans h0_) (by decide)⟩
    refine steps_cons ?_ ?_
    · intro b a w' hI_ hb_ hon hoff
      refine ⟨_, rfl, fun K hK => ?_⟩
      obtain ⟨g21, g34, B23, d23, B25, d25, B29, d29, B36, d36, B38, d38, B42, d42, m2_, m4_, m6_, m10_, m15_, m17_, m19_, m23_, ha, Q_HBB, Q_HC23, Q_HD23, Q_HC25, Q_HC29, Q_HC36, Q_HD36, Q_HC38, Q_HC42, Q_X2_, Q_X4_, Q_X6_, Q_X10_, Q_X15_, Q_X17_, Q_X19_, Q_X23_⟩ := hI_
      have e32 : a.tmps[32]? = some (.bool true) := by rw [ha]; exact putSel_on (e := (13, 32, .bool true)) 13 rfl rfl (hon 13 (by kernel_rfl)) rfl
      replace ha := Aside0.mk ha
      have HBB := Aside0.mk Q_HBB
      have HC23 := Aside0.mk (Q_HC23 (hon 4 (by kernel_rfl)))
      have HD23 := Aside0.mk (Q_HD23 (hon 4 (by kernel_rfl)))
      have HC25 := Aside0.mk (Q_HC25 (hon 6 (by kernel_rfl)))
      have HC29 := Aside0.mk (Q_HC29 (hon 10 (by kernel_rfl)))
      refine value_ (w1 := w') (v := .bool true) (by rfl) rfl ?_ ?_
      · go_simp
        (try simp only [i64_w])
        try rfl
      refine hK.out _ _ ⟨g21, g34, B23, d23, B25, d25, B29, d29, B36, d36, B38, d38, B42, d42, m2_, m4_, m6_, m10_, m15_, m17_, m19_, m23_, (by rw [ha.out]; exact putSel_upk 14 hb_ rfl rfl rfl), Q_HBB, Q_HC23, Q_HD23, Q_HC25, Q_HC29, fun h0_ => absurd ((hoff 17 (by kernel_rfl)).symm.trans h0_) (by decide), fun h0_ => absurd ((hoff 17 (by kernel_rfl)).symm.trans h0_) (by decide), fun h0_ => absurd ((hoff 19 (by kernel_rfl)).symm.trans h0_) (by decide), fun h0_ => absurd ((hoff 23 (by kernel_rfl)).symm.trans h0_) (by decide), Q_X2_, Q_X4_, Q_X6_, Q_X10_, fun h0_ => absurd ((hoff 15 (by kernel_rfl)).symm.trans h0_) (by decide), fun h0_ => absurd ((hoff 17 (by kernel_rfl)).symm.trans h0_) (by decide), fun h0_ => absurd ((hoff 19 (by kernel_rfl)).symm.trans h0_) (by decide), fun h0_ => absurd ((hoff 23 (by kernel_rfl)).symm.trans h0_) (by decide)⟩
    refine steps_cons ?_ ?_
    · intro b a w' hI_ hb_ hon hoff
      refine ⟨_, rfl, fun K hK => ?_⟩
      obtain ⟨g21, g34, B23, d23, B25, d25, B29, d29, B36, d36, B38, d38, B42, d42, m2_, m4_, m6_, m10_, m15_, m17_, m19_, m23_, ha, Q_HBB, Q_HC23, Q_HD23, Q_HC25, Q_HC29, Q_HC36, Q_HD36, Q_HC38, Q_HC42, Q_X2_, Q_X4_, Q_X6_, Q_X10_, Q_X15_, Q_X17_, Q_X19_, Q_X23_⟩ := hI_
      have e33 : a.tmps[33]? = some (.bool true) := by rw [ha]; exact putSel_on (e := (14, 33, .bool true)) 14 rfl rfl (hon 14 (by kernel_rfl)) rfl
      replace ha := Aside0.mk ha
      have HBB := Aside0.mk Q_HBB
      have HC23 := Aside0.mk (Q_HC23 (hon 4 (by kernel_rfl)))
      have HD23 := Aside0.mk (Q_HD23 (hon 4 (by kernel_rfl)))
      have HC25 := Aside0.mk (Q_HC25 (hon 6 (by kernel_rfl)))
      have HC29 := Aside0.mk (Q_HC29 (hon 10 (by kernel_rfl)))
      refine event_step (wanted_on rfl rfl rfl (e33.trans (by first | rfl | (simp [*]; done)))) (v := .slice (some ⟨w'.heap.size, 0, none⟩) 0 0) (w1 := w'.alloc (.cells #[] 5)) ?_ ?_
      · first | (go_simp; done) | (go_simp; rfl)
      refine hK.out _ _ ⟨g21, w'.heap.size, B23, d23, B25, d25, B29, d29, B36, d36, B38, d38, B42, d42, m2_, m4_, m6_, m10_, (.slice (some ⟨w'.heap.size, 0, none⟩) 0 0), m17_, m19_, m23_, (by rw [ha.out]; exact putSel_upk 15 hb_ rfl rfl rfl), below_alloc HBB.out _, fun _ => Kd.C_alloc HC23.out _, fun _ => HD23.out, fun _ => Kd.C_alloc HC25.out _, fun _ => Kd.C_alloc HC29.out _, fun h0_ => absurd ((hoff 17 (by kernel_rfl)).symm.trans h0_) (by decide), fun h0_ => absurd ((hoff 17 (by kernel_rfl)).symm.trans h0_) (by decide), fun h0_ => absurd ((hoff 19 (by kernel_rfl)).symm.trans h0_) (by decide), fun h0_ => absurd ((hoff 23 (by kernel_rfl)).symm.trans h0_) (by decide), Q_X2_, Q_X4_, Q_X6_, Q_X10_, fun _ => rfl, fun h0_ => absurd ((hoff 17 (by kernel_rfl)).symm.trans h0_) (by decide), fun h0_ => absurd ((hoff 19 (by kernel_rfl)).symm.trans h0_) (by decide), fun h0_ => absurd ((hoff 23 (by kernel_rfl)).symm.trans h0_) (by decide)⟩
    refine steps_cons ?_ ?_
    · intro b a w' hI_ hb_ hon hoff
      refine ⟨_, rfl, fun K hK => ?_⟩
      obtain ⟨g21, g34, B23, d23, B25, d25, B29, d29, B36, d36, B38, d38, B42, d42, m2_, m4_, m6_, m10_, m15_, m17_, m19_, m23_, ha, Q_HBB, Q_HC23, Q_HD23, Q_HC25, Q_HC29, Q_HC36, Q_HD36, Q_HC38, Q_HC42, Q_X2_, Q_X4_, Q_X6_, Q_X10_, Q_X15_, Q_X17_, Q_X19_, Q_X23_⟩ := hI_
      have e0 : a.tmps[0]? = some (.slice A0 lb.length cap) := by rw [ha]; exact (putSel_off rfl).trans rfl
      have e33 : a.tmps[33]? = some (.bool true) := by rw [ha]; exact putSel_on (e := (14, 33, .bool true)) 14 rfl rfl (hon 14 (by kernel_rfl)) rfl
      replace ha := Aside0.mk ha
      have HBB := Aside0.mk Q_HBB
      have HC23 := Aside0.mk (Q_HC23 (hon 4 (by kernel_rfl)))
      have HD23 := Aside0.mk (Q_HD23 (hon 4 (by kernel_rfl)))
      have HC25 := Aside0.mk (Q_HC25 (hon 6 (by kernel_rfl)))
      have HC29 := Aside0.mk (Q_HC29 (hon 10 (by kernel_rfl)))
      refine value_ (w1 := w') (v := .slice A0 lb.length cap) (wanted_on rfl rfl rfl (e33.trans (by first | rfl | (simp [*]; done)))) rfl ?_ ?_
      · go_simp
        (try simp only [i64_w])
        try rfl
      refine hK.out _ _ ⟨g21, g34, B23, d23, B25, d25, B29, d29, B36, d36, B38, d38, B42, d42, m2_, m4_, m6_, m10_, m15_, m17_, m19_, m23_, (by rw [ha.out]; exact putSel_upk 16 hb_ rfl rfl rfl), Q_HBB, Q_HC23, Q_HD23, Q_HC25, Q_HC29, fun h0_ => absurd ((hoff 17 (by kernel_rfl)).symm.trans h0_) (by decide), fun h0_ => absurd ((hoff 17 (by kernel_rfl)).symm.trans h0_) (by decide), fun h0_ => absurd ((hoff 19 (by kernel_rfl)).symm.trans h0_) (by decide), fun h0_ => absurd ((hoff 23 (by kernel_rfl)).symm.trans h0_) (by decide), Q_X2_, Q_X4_, Q_X6_, Q_X10_, Q_X15_, fun h0_ => absurd ((hoff 17 (by kernel_rfl)).symm.trans h0_) (by decide), fun h0_ => absurd ((hoff 19 (by kernel_rfl)).symm.trans h0_) (by decide), fun h0_ => absurd ((hoff 23 (by kernel_rfl)).symm.trans h0_) (by decide)⟩
    refine steps_cons ?_ ?_
    · intro b a w' hI_ hb_ hon hoff
      refine ⟨_, rfl, fun K hK => ?_⟩
      obtain ⟨g21, g34, B23, d23, B25, d25, B29, d29, B36, d36, B38, d38, B42, d42, m2_, m4_, m6_, m10_, m15_, m17_, m19_, m23_, ha, Q_HBB, Q_HC23, Q_HD23, Q_HC25, Q_HC29, Q_HC36, Q_HD36, Q_HC38, Q_HC42, Q_X2_, Q_X4_, Q_X6_, Q_X10_, Q_X15_, Q_X17_, Q_X19_, Q_X23_⟩ := hI_
      have e34 : a.tmps[34]? = some (m15_) := by rw [ha]; exact putSel_on (e := (15, 34, m15_)) 15 rfl rfl (hon 15 (by kernel_rfl)) rfl
      rw [Q_X15_ (hon 15 (by kernel_rfl))] at e34
      have e35 : a.tmps[35]? = some (.slice A0 lb.length cap) := by rw [ha]; exact putSel_on (e := (16, 35, .slice A0 lb.length cap)) 16 rfl rfl (hon 16 (by kernel_rfl)) rfl
      have e33 : a.tmps[33]? = some (.bool true) := by rw [ha]; exact putSel_on (e := (14, 33, .bool true)) 14 rfl rfl (hon 14 (by kernel_rfl)) rfl
      replace ha := Aside0.mk ha
      have HBB := Aside0.mk Q_HBB
      have HC23 := Aside0.mk (Q_HC23 (hon 4 (by kernel_rfl)))
      have HD23 := Aside0.mk (Q_HD23 (hon 4 (by kernel_rfl)))
      have HC25 := Aside0.mk (Q_HC25 (hon 6 (by kernel_rfl)))
      have HC29 := Aside0.mk (Q_HC29 (hon 10 (by kernel_rfl)))
      refine Gen.fresh_step (Kd.int .u8) (wanted_on rfl rfl rfl (e33.trans (by first | rfl | (simp [*]; done)))) (.tmp 34) (.tmp 35) 23 5 (.int .u8 0) 1 rfl Try.underlying23 info_u8 (by decide) (by decide) g34 _ _ _ lb (eval_of e34) (eval_of e35) (Kd.C_below HLB.out HBB.out) (by omega) ?_
      intro A_ c_ w3 hc_ hC_ hb_2
      refine hK.out _ _ ⟨g21, g34, B23, d23, B25, d25, B29, d29, A_, c_, B38, d38, B42, d42, m2_, m4_, m6_, m10_, m15_, (.slice A_ lb.length c_), m19_, m23_, (by rw [ha.out]; exact putSel_upk 17 hb_ rfl rfl rfl), below_step HBB.out hb_2, fun _ => Kd.C_below HC23.out hb_2, fun _ => HD23.out, fun _ => Kd.C_below HC25.out hb_2, fun _ => Kd.C_below HC29.out hb_2, fun _ => hC_, fun _ => hc_, fun h0_ => absurd ((hoff 19 (by kernel_rfl)).symm.trans h0_) (by decide), fun h0_ => absurd ((hoff 23 (by kernel_rfl)).symm.trans h0_) (by decide), Q_X2_, Q_X4_, Q_X6_, Q_X10_, Q_X15_, fun _ => rfl, fun h0_ => absurd ((hoff 19 (by kernel_rfl)).symm.trans h0_) (by decide), fun h0_ => absurd ((hoff 23 (by kernel_rfl)).symm.trans h0_) (by decide)⟩
    refine steps_cons ?_ ?_
    · intro b a w' hI_ hb_ hon hoff
      refine ⟨_, rfl, fun K hK => ?_⟩
      obtain ⟨g21, g34, B23, d23, B25, d25, B29, d29, B36, d36, B38, d38, B42, d42, m2_, m4_, m6_, m10_, m15_, m17_, m19_, m23_, ha, Q_HBB, Q_HC23, Q_HD23, Q_HC25, Q_HC29, Q_HC36, Q_HD36, Q_HC38, Q_HC42, Q_X2_, Q_X4_, Q_X6_, Q_X10_, Q_X15_, Q_X17_, Q_X19_, Q_X23_⟩ := hI_
      have e2 : a.tmps[2]? = some (.string t) := by rw [ha]; exact (putSel_off rfl).trans rfl
      have e33 : a.tmps[33]? = some (.bool true) := by rw [ha]; exact putSel_on (e := (14, 33, .bool true)) 14 rfl rfl (hon 14 (by kernel_rfl)) rfl
      replace ha := Aside0.mk ha
      have HBB := Aside0.mk Q_HBB
      have HC23 := Aside0.mk (Q_HC23 (hon 4 (by kernel_rfl)))
      have HD23 := Aside0.mk (Q_HD23 (hon 4 (by kernel_rfl)))
      have HC25 := Aside0.mk (Q_HC25 (hon 6 (by kernel_rfl)))
      have HC29 := Aside0.mk (Q_HC29 (hon 10 (by kernel_rfl)))
      refine value_ (w1 := w') (v := .string t) (wanted_on rfl rfl rfl (e33.trans (by first | rfl | (simp [*]; done)))) rfl ?_ ?_
      · go_simp
        (try simp only [i64_w])
        try rfl
      refine hK.out _ _ ⟨g21, g34, B23, d23, B25, d25, B29, d29, B36, d36, B38, d38, B42, d42, m2_, m4_, m6_, m10_, m15_, m17_, m19_, m23_, (by rw [ha.out]; exact putSel_upk 18 hb_ rfl rfl rfl), Q_HBB, Q_HC23, Q_HD23, Q_HC25, Q_HC29, Q_HC36, Q_HD36, fun h0_ => absurd ((hoff 19 (by kernel_rfl)).symm.trans h0_) (by decide), fun h0_ => absurd ((hoff 23 (by kernel_rfl)).symm.trans h0_) (by decide), Q_X2_, Q_X4_, Q_X6_, Q_X10_, Q_X15_, Q_X17_, fun h0_ => absurd ((hoff 19 (by kernel_rfl)).symm.trans h0_) (by decide), fun h0_ => absurd ((hoff 23 (by kernel_rfl)).symm.trans h0_) (by decide)⟩
    refine steps_cons ?_ ?_
    · intro b a w' hI_ hb_ hon hoff
      refine ⟨_, rfl, fun K hK => ?_⟩
      obtain ⟨g21, g34, B23, d23, B25, d25, B29, d29, B36, d36, B38, d38, B42, d42, m2_, m4_, m6_, m10_, m15_, m17_, m19_, m23_, ha, Q_HBB, Q_HC23, Q_HD23, Q_HC25, Q_HC29, Q_HC36, Q_HD36, Q_HC38, Q_HC42, Q_X2_, Q_X4_, Q_X6_, Q_X10_, Q_X15_, Q_X17_, Q_X19_, Q_X23_⟩ := hI_
      have e36 : a.tmps[36]? = some (m17_) := by rw [ha]; exact putSel_on (e := (17, 36, m17_)) 17 rfl rfl (hon 17 (by kernel_rfl)) rfl
      rw [Q_X17_ (hon 17 (by kernel_rfl))] at e36
      have e37 : a.tmps[37]? = some (.string t) := by rw [ha]; exact putSel_on (e := (18, 37, .string t)) 18 rfl rfl (hon 18 (by kernel_rfl)) rfl
      have e33 : a.tmps[33]? = some (.bool true) := by rw [ha]; exact putSel_on (e := (14, 33, .bool true)) 14 rfl rfl (hon 14 (by kernel_rfl)) rfl
      replace ha := Aside0.mk ha
      have HBB := Aside0.mk Q_HBB
      have HC23 := Aside0.mk (Q_HC23 (hon 4 (by kernel_rfl)))
      have HD23 := Aside0.mk (Q_HD23 (hon 4 (by kernel_rfl)))
      have HC25 := Aside0.mk (Q_HC25 (hon 6 (by kernel_rfl)))
      have HC29 := Aside0.mk (Q_HC29 (hon 10 (by kernel_rfl)))
      have HC36 := Aside0.mk (Q_HC36 (hon 17 (by kernel_rfl)))
      have HD36 := Aside0.mk (Q_HD36 (hon 17 (by kernel_rfl)))
      refine goes_ Try.func14 (by kernel_rfl) rfl #[.slice B36 lb.length d36, .string t] (wanted_on rfl rfl rfl (e33.trans (by first | rfl | (simp [*]; done)))) rfl rfl (by first | (simp only [List.map_toArray, List.map_cons, List.map_nil, Act.eval, Array.getD_eq_getD_getElem?, Option.getD_some, e36, e37, e33]; done) | (simp only [List.map_toArray, List.map_cons, List.map_nil, Act.eval, Array.getD_eq_getD_getElem?, Option.getD_some, e36, e37, e33]; rfl)) ?_
      with_reducible refine (putTextC l2 B36 d36 lb t _ HC36.out HD36.out (by omega) H2.out).mono ?_
      rintro e w3 ⟨A_, c_, rfl, hc_, hC_, hb_2⟩
      refine ⟨_, rfl, ?_⟩
      refine hK.out _ _ ⟨g21, g34, B23, d23, B25, d25, B29, d29, B36, d36, A_, c_, B42, d42, m2_, m4_, m6_, m10_, m15_, m17_, (.slice A_ l2.length c_), m23_, (by rw [ha.out]; exact putSel_upk 19 hb_ rfl rfl rfl), below_step HBB.out hb_2, fun _ => Kd.C_below HC23.out hb_2, fun _ => HD23.out, fun _ => Kd.C_below HC25.out hb_2, fun _ => Kd.C_below HC29.out hb_2, fun _ => Kd.C_below HC36.out hb_2, fun _ => HD36.out, fun _ => hC_, fun h0_ => absurd ((hoff 23 (by kernel_rfl)).symm.trans h0_) (by decide), Q_X2_, Q_X4_, Q_X6_, Q_X10_, Q_X15_, Q_X17_, fun _ => rfl, fun h0_ => absurd ((hoff 23 (by kernel_rfl)).symm.trans h0_) (by decide)⟩
    refine steps_cons ?_ ?_
    · intro b a w' hI_ hb_ hon hoff
      refine ⟨_, rfl, fun K hK => ?_⟩
      obtain ⟨g21, g34, B23, d23, B25, d25, B29, d29, B36, d36, B38, d38, B42, d42, m2_, m4_, m6_, m10_, m15_, m17_, m19_, m23_, ha, Q_HBB, Q_HC23, Q_HD23, Q_HC25, Q_HC29, Q_HC36, Q_HD36, Q_HC38, Q_HC42, Q_X2_, Q_X4_, Q_X6_, Q_X10_, Q_X15_, Q_X17_, Q_X19_, Q_X23_⟩ := hI_
      have e38 : a.tmps[38]? = some (m19_) := by rw [ha]; exact putSel_on (e := (19, 38, m19_)) 19 rfl rfl (hon 19 (by kernel_rfl)) rfl
      rw [Q_X19_ (hon 19 (by kernel_rfl))] at e38
      have e33 : a.tmps[33]? = some (.bool true) := by rw [ha]; exact putSel_on (e := (14, 33, .bool true)) 14 rfl rfl (hon 14 (by kernel_rfl)) rfl
      replace ha := Aside0.mk ha
      have HBB := Aside0.mk Q_HBB
      have HC23 := Aside0.mk (Q_HC23 (hon 4 (by kernel_rfl)))
      have HD23 := Aside0.mk (Q_HD23 (hon 4 (by kernel_rfl)))
      have HC25 := Aside0.mk (Q_HC25 (hon 6 (by kernel_rfl)))
      have HC29 := Aside0.mk (Q_HC29 (hon 10 (by kernel_rfl)))
      have HC36 := Aside0.mk (Q_HC36 (hon 17 (by kernel_rfl)))
      have HD36 := Aside0.mk (Q_HD36 (hon 17 (by kernel_rfl)))
      have HC38 := Aside0.mk (Q_HC38 (hon 19 (by kernel_rfl)))
      have hcv := Kd.C_string (P := Try.prog) (c := d38) Try.underlying23 Try.underlying5 Try.underlying9 HC38.out
      refine value_ (w1 := w') (v := .string (strOfNums l2)) (wanted_on rfl rfl rfl (e33.trans (by first | rfl | (simp [*]; done)))) rfl ?_ ?_
      · go_simp
        (try simp only [i64_w])
        try rfl
      refine hK.out _ _ ⟨g21, g34, B23, d23, B25, d25, B29, d29, B36, d36, B38, d38, B42, d42, m2_, m4_, m6_, m10_, m15_, m17_, m19_, m23_, (by rw [ha.out]; exact putSel_upk 20 hb_ rfl rfl rfl), Q_HBB, Q_HC23, Q_HD23, Q_HC25, Q_HC29, Q_HC36, Q_HD36, Q_HC38, Q_HC42, Q_X2_, Q_X4_, Q_X6_, Q_X10_, Q_X15_, Q_X17_, Q_X19_, Q_X23_⟩
    refine steps_cons ?_ ?_
    · intro b a w' hI_ hb_ hon hoff
      refine ⟨_, rfl, fun K hK => ?_⟩
      obtain ⟨g21, g34, B23, d23, B25, d25, B29, d29, B36, d36, B38, d38, B42, d42, m2_, m4_, m6_, m10_, m15_, m17_, m19_, m23_, ha, Q_HBB, Q_HC23, Q_HD23, Q_HC25, Q_HC29, Q_HC36, Q_HD36, Q_HC38, Q_HC42, Q_X2_, Q_X4_, Q_X6_, Q_X10_, Q_X15_, Q_X17_, Q_X19_, Q_X23_⟩ := hI_
      have e0 : a.tmps[0]? = some (.slice A0 lb.length cap) := by rw [ha]; exact (putSel_off rfl).trans rfl
      have e33 : a.tmps[33]? = some (.bool true) := by rw [ha]; exact putSel_on (e := (14, 33, .bool true)) 14 rfl rfl (hon 14 (by kernel_rfl)) rfl
      replace ha := Aside0.mk ha
      have HBB := Aside0.mk Q_HBB
      have HC23 := Aside0.mk (Q_HC23 (hon 4 (by kernel_rfl)))
      have HD23 := Aside0.mk (Q_HD23 (hon 4 (by kernel_rfl)))
      have HC25 := Aside0.mk (Q_HC25 (hon 6 (by kernel_rfl)))
      have HC29 := Aside0.mk (Q_HC29 (hon 10 (by kernel_rfl)))
      refine value_ (w1 := w') (v := .slice A0 lb.length cap) (wanted_on rfl rfl rfl (e33.trans (by first | rfl | (simp [*]; done)))) rfl ?_ ?_
      · go_simp
        (try simp only [i64_w])
        try rfl
      refine hK.out _ _ ⟨g21, g34, B23, d23, B25, d25, B29, d29, B36, d36, B38, d38, B42, d42, m2_, m4_, m6_, m10_, m15_, m17_, m19_, m23_, (by rw [ha.out]; exact putSel_upk 21 hb_ rfl rfl rfl), Q_HBB, Q_HC23, Q_HD23, Q_HC25, Q_HC29, Q_HC36, Q_HD36, Q_HC38, fun h0_ => absurd ((hoff 23 (by kernel_rfl)).symm.trans h0_) (by decide), Q_X2_, Q_X4_, Q_X6_, Q_X10_, Q_X15_, Q_X17_, Q_X19_, fun h0_ => absurd ((hoff 23 (by kernel_rfl)).symm.trans h0_) (by decide)⟩
    refine steps_cons ?_ ?_
    · intro b a w' hI_ hb_ hon hoff
      refine ⟨_, rfl, fun K hK => ?_⟩
      obtain ⟨g21, g34, B23, d23, B25, d25, B29, d29, B36, d36, B38, d38, B42, d42, m2_, m4_, m6_, m10_, m15_, m17_, m19_, m23_, ha, Q_HBB, Q_HC23, Q_HD23, Q_HC25, Q_HC29, Q_HC36, Q_HD36, Q_HC38, Q_HC42, Q_X2_, Q_X4_, Q_X6_, Q_X10_, Q_X15_, Q_X17_, Q_X19_, Q_X23_⟩ := hI_
      have e2 : a.tmps[2]? = some (.string t) := by rw [ha]; exact (putSel_off rfl).trans rfl
      have e33 : a.tmps[33]? = some (.bool true) := by rw [ha]; exact putSel_on (e := (14, 33, .bool true)) 14 rfl rfl (hon 14 (by kernel_rfl)) rfl
      replace ha := Aside0.mk ha
      have HBB := Aside0.mk Q_HBB
      have HC23 := Aside0.mk (Q_HC23 (hon 4 (by kernel_rfl)))
      have HD23 := Aside0.mk (Q_HD23 (hon 4 (by kernel_rfl)))
      have HC25 := Aside0.mk (Q_HC25 (hon 6 (by kernel_rfl)))
      have HC29 := Aside0.mk (Q_HC29 (hon 10 (by kernel_rfl)))
      refine value_ (w1 := w') (v := .string t) (wanted_on rfl rfl rfl (e33.trans (by first | rfl | (simp [*]; done)))) rfl ?_ ?_
      · go_simp
        (try simp only [i64_w])
        try rfl
      refine hK.out _ _ ⟨g21, g34, B23, d23, B25, d25, B29, d29, B36, d36, B38, d38, B42, d42, m2_, m4_, m6_, m10_, m15_, m17_, m19_, m23_, (by rw [ha.out]; exact putSel_upk 22 hb_ rfl rfl rfl), Q_HBB, Q_HC23, Q_HD23, Q_HC25, Q_HC29, Q_HC36, Q_HD36, Q_HC38, fun h0_ => absurd ((hoff 23 (by kernel_rfl)).symm.trans h0_) (by decide), Q_X2_, Q_X4_, Q_X6_, Q_X10_, Q_X15_, Q_X17_, Q_X19_, fun h0_ => absurd ((hoff 23 (by kernel_rfl)).symm.trans h0_) (by decide)⟩
    refine steps_cons ?_ ?_
    · intro b a w' hI_ hb_ hon hoff
      refine ⟨_, rfl, fun K hK => ?_⟩
      obtain ⟨g21, g34, B23, d23, B25, d25, B29, d29, B36, d36, B38, d38, B42, d42, m2_, m4_, m6_, m10_, m15_, m17_, m19_, m23_, ha, Q_HBB, Q_HC23, Q_HD23, Q_HC25, Q_HC29, Q_HC36, Q_HD36, Q_HC38, Q_HC42, Q_X2_, Q_X4_, Q_X6_, Q_X10_, Q_X15_, Q_X17_, Q_X19_, Q_X23_⟩ := hI_
      have e40 : a.tmps[40]? = some (.slice A0 lb.length cap) := by rw [ha]; exact putSel_on (e := (21, 40, .slice A0 lb.length cap)) 21 rfl rfl (hon 21 (by kernel_rfl)) rfl
      have e41 : a.tmps[41]? = some (.string t) := by rw [ha]; exact putSel_on (e := (22, 41, .string t)) 22 rfl rfl (hon 22 (by kernel_rfl)) rfl
      have e33 : a.tmps[33]? = some (.bool true) := by rw [ha]; exact putSel_on (e := (14, 33, .bool true)) 14 rfl rfl (hon 14 (by kernel_rfl)) rfl
      replace ha := Aside0.mk ha
      have HBB := Aside0.mk Q_HBB
      have HC23 := Aside0.mk (Q_HC23 (hon 4 (by kernel_rfl)))
      have HD23 := Aside0.mk (Q_HD23 (hon 4 (by kernel_rfl)))
      have HC25 := Aside0.mk (Q_HC25 (hon 6 (by kernel_rfl)))
      have HC29 := Aside0.mk (Q_HC29 (hon 10 (by kernel_rfl)))
      have HC36 := Aside0.mk (Q_HC36 (hon 17 (by kernel_rfl)))
      have HD36 := Aside0.mk (Q_HD36 (hon 17 (by kernel_rfl)))
      have HC38 := Aside0.mk (Q_HC38 (hon 19 (by kernel_rfl)))
      refine goes_ Try.func15 (by kernel_rfl) rfl #[.slice A0 lb.length cap, .string t] (wanted_on rfl rfl rfl (e33.trans (by first | rfl | (simp [*]; done)))) rfl rfl (by first | (simp only [List.map_toArray, List.map_cons, List.map_nil, Act.eval, Array.getD_eq_getD_getElem?, Option.getD_some, e40, e41, e33]; done) | (simp only [List.map_toArray, List.map_cons, List.map_nil, Act.eval, Array.getD_eq_getD_getElem?, Option.getD_some, e40, e41, e33]; rfl)) ?_
      with_reducible refine (refPutTextC l2 A0 cap lb t _ (Kd.C_below HLB.out HBB.out) hcap (by omega) H2.out).mono ?_
      rintro e w3 ⟨A_, c_, rfl, hc_, hC_, hb_2⟩
      refine ⟨_, rfl, ?_⟩
      refine hK.out _ _ ⟨g21, g34, B23, d23, B25, d25, B29, d29, B36, d36, B38, d38, A_, c_, m2_, m4_, m6_, m10_, m15_, m17_, m19_, (.slice A_ l2.length c_), (by rw [ha.out]; exact putSel_upk 23 hb_ rfl rfl rfl), below_step HBB.out hb_2, fun _ => Kd.C_below HC23.out hb_2, fun _ => HD23.out, fun _ => Kd.C_below HC25.out hb_2, fun _ => Kd.C_below HC29.out hb_2, fun _ => Kd.C_below HC36.out hb_2, fun _ => HD36.out, fun _ => Kd.C_below HC38.out hb_2, fun _ => hC_, Q_X2_, Q_X4_, Q_X6_, Q_X10_, Q_X15_, Q_X17_, Q_X19_, fun _ => rfl⟩
    refine steps_cons ?_ ?_
    · intro b a w' hI_ hb_ hon hoff
      refine ⟨_, rfl, fun K hK => ?_⟩
      obtain ⟨g21, g34, B23, d23, B25, d25, B29, d29, B36, d36, B38, d38, B42, d42, m2_, m4_, m6_, m10_, m15_, m17_, m19_, m23_, ha, Q_HBB, Q_HC23, Q_HD23, Q_HC25, Q_HC29, Q_HC36, Q_HD36, Q_HC38, Q_HC42, Q_X2_, Q_X4_, Q_X6_, Q_X10_, Q_X15_, Q_X17_, Q_X19_, Q_X23_⟩ := hI_
      have e42 : a.tmps[42]? = some (m23_) := by rw [ha]; exact putSel_on (e := (23, 42, m23_)) 23 rfl rfl (hon 23 (by kernel_rfl)) rfl
      rw [Q_X23_ (hon 23 (by kernel_rfl))] at e42
      have e33 : a.tmps[33]? = some (.bool true) := by rw [ha]; exact putSel_on (e := (14, 33, .bool true)) 14 rfl rfl (hon 14 (by kernel_rfl)) rfl
      replace ha := Aside0.mk ha
      have HBB := Aside0.mk Q_HBB
      have HC23 := Aside0.mk (Q_HC23 (hon 4 (by kernel_rfl)))
      have HD23 := Aside0.mk (Q_HD23 (hon 4 (by kernel_rfl)))
      have HC25 := Aside0.mk (Q_HC25 (hon 6 (by kernel_rfl)))
      have HC29 := Aside0.mk (Q_HC29 (hon 10 (by kernel_rfl)))
      have HC36 := Aside0.mk (Q_HC36 (hon 17 (by kernel_rfl)))
      have HD36 := Aside0.mk (Q_HD36 (hon 17 (by kernel_rfl)))
      have HC38 := Aside0.mk (Q_HC38 (hon 19 (by kernel_rfl)))
      have HC42 := Aside0.mk (Q_HC42 (hon 23 (by kernel_rfl)))
      have hcv := Kd.C_string (P := Try.prog) (c := d42) Try.underlying23 Try.underlying5 Try.underlying9 HC42.out
      refine value_ (w1 := w') (v := .string (strOfNums l2)) (wanted_on rfl rfl rfl (e33.trans (by first | rfl | (simp [*]; done)))) rfl ?_ ?_
      · go_simp
        (try simp only [i64_w])
        try rfl
      refine hK.out _ _ ⟨g21, g34, B23, d23, B25, d25, B29, d29, B36, d36, B38, d38, B42, d42, m2_, m4_, m6_, m10_, m15_, m17_, m19_, m23_, (by rw [ha.out]; exact putSel_upk 24 hb_ rfl rfl rfl), Q_HBB, Q_HC23, Q_HD23, Q_HC25, Q_HC29, Q_HC36, Q_HD36, Q_HC38, Q_HC42, Q_X2_, Q_X4_, Q_X6_, Q_X10_, Q_X15_, Q_X17_, Q_X19_, Q_X23_⟩
    refine steps_cons ?_ ?_
    · intro b a w' hI_ hb_ hon hoff
      refine ⟨_, rfl, fun K hK => ?_⟩
      obtain ⟨g21, g34, B23, d23, B25, d25, B29, d29, B36, d36, B38, d38, B42, d42, m2_, m4_, m6_, m10_, m15_, m17_, m19_, m23_, ha, Q_HBB, Q_HC23, Q_HD23, Q_HC25, Q_HC29, Q_HC36, Q_HD36, Q_HC38, Q_HC42, Q_X2_, Q_X4_, Q_X6_, Q_X10_, Q_X15_, Q_X17_, Q_X19_, Q_X23_⟩ := hI_
      have e39 : a.tmps[39]? = some (.string (strOfNums l2)) := by rw [ha]; exact putSel_on (e := (20, 39, .string (strOfNums l2))) 20 rfl rfl (hon 20 (by kernel_rfl)) rfl
      have e43 : a.tmps[43]? = some (.string (strOfNums l2)) := by rw [ha]; exact putSel_on (e := (24, 43, .string (strOfNums l2))) 24 rfl rfl (hon 24 (by kernel_rfl)) rfl
      have e33 : a.tmps[33]? = some (.bool true) := by rw [ha]; exact putSel_on (e := (14, 33, .bool true)) 14 rfl rfl (hon 14 (by kernel_rfl)) rfl
      replace ha := Aside0.mk ha
      have HBB := Aside0.mk Q_HBB
      have HC23 := Aside0.mk (Q_HC23 (hon 4 (by kernel_rfl)))
      have HD23 := Aside0.mk (Q_HD23 (hon 4 (by kernel_rfl)))
      have HC25 := Aside0.mk (Q_HC25 (hon 6 (by kernel_rfl)))
      have HC29 := Aside0.mk (Q_HC29 (hon 10 (by kernel_rfl)))
      have HC36 := Aside0.mk (Q_HC36 (hon 17 (by kernel_rfl)))
      have HD36 := Aside0.mk (Q_HD36 (hon 17 (by kernel_rfl)))
      have HC38 := Aside0.mk (Q_HC38 (hon 19 (by kernel_rfl)))
      have HC42 := Aside0.mk (Q_HC42 (hon 23 (by kernel_rfl)))
      refine value_ (w1 := w') (v := .bool true) (wanted_on rfl rfl rfl (e33.trans (by first | rfl | (simp [*]; done)))) rfl ?_ ?_
      · go_simp
        (try simp only [i64_w])
        try rfl
      refine hK.out _ _ ⟨g21, g34, B23, d23, B25, d25, B29, d29, B36, d36, B38, d38, B42, d42, m2_, m4_, m6_, m10_, m15_, m17_, m19_, m23_, (by rw [ha.out]; exact putSel_upk 25 hb_ rfl rfl rfl), Q_HBB, Q_HC23, Q_HD23, Q_HC25, Q_HC29, Q_HC36, Q_HD36, Q_HC38, Q_HC42, Q_X2_, Q_X4_, Q_X6_, Q_X10_, Q_X15_, Q_X17_, Q_X19_, Q_X23_⟩
    refine steps_cons ?_ ?_
    · intro b a w' hI_ hb_ hon hoff
      refine ⟨_, rfl, fun K hK => ?_⟩
      obtain ⟨g21, g34, B23, d23, B25, d25, B29, d29, B36, d36, B38, d38, B42, d42, m2_, m4_, m6_, m10_, m15_, m17_, m19_, m23_, ha, Q_HBB, Q_HC23, Q_HD23, Q_HC25, Q_HC29, Q_HC36, Q_HD36, Q_HC38, Q_HC42, Q_X2_, Q_X4_, Q_X6_, Q_X10_, Q_X15_, Q_X17_, Q_X19_, Q_X23_⟩ := hI_
      have e33 : a.tmps[33]? = some (.bool true) := by rw [ha]; exact putSel_on (e := (14, 33, .bool true)) 14 rfl rfl (hon 14 (by kernel_rfl)) rfl
      have e44 : a.tmps[44]? = some (.bool true) := by rw [ha]; exact putSel_on (e := (25, 44, .bool true)) 25 rfl rfl (hon 25 (by kernel_rfl)) rfl
      replace ha := Aside0.mk ha
      have HBB := Aside0.mk Q_HBB
      have HC23 := Aside0.mk (Q_HC23 (hon 4 (by kernel_rfl)))
      have HD23 := Aside0.mk (Q_HD23 (hon 4 (by kernel_rfl)))
      have HC25 := Aside0.mk (Q_HC25 (hon 6 (by kernel_rfl)))
      have HC29 := Aside0.mk (Q_HC29 (hon 10 (by kernel_rfl)))
      have HC36 := Aside0.mk (Q_HC36 (hon 17 (by kernel_rfl)))
      have HD36 := Aside0.mk (Q_HD36 (hon 17 (by kernel_rfl)))
      have HC38 := Aside0.mk (Q_HC38 (hon 19 (by kernel_rfl)))
      have HC42 := Aside0.mk (Q_HC42 (hon 23 (by kernel_rfl)))
      refine value_ (w1 := w') (v := .bool true) (by rfl) rfl ?_ ?_
      · go_simp
        (try simp only [i64_w])
        try rfl
      refine hK.out _ _ ⟨g21, g34, B23, d23, B25, d25, B29, d29, B36, d36, B38, d38, B42, d42, m2_, m4_, m6_, m10_, m15_, m17_, m19_, m23_, (by rw [ha.out]; exact putSel_upk 26 hb_ rfl rfl rfl), Q_HBB, Q_HC23, Q_HD23, Q_HC25, Q_HC29, Q_HC36, Q_HD36, Q_HC38, Q_HC42, Q_X2_, Q_X4_, Q_X6_, Q_X10_, Q_X15_, Q_X17_, Q_X19_, Q_X23_⟩
    refine steps_cons ?_ ?_
    · intro b a w' hI_ hb_ hon hoff
      refine ⟨_, rfl, fun K hK => ?_⟩
      obtain ⟨g21, g34, B23, d23, B25, d25, B29, d29, B36, d36, B38, d38, B42, d42, m2_, m4_, m6_, m10_, m15_, m17_, m19_, m23_, ha, Q_HBB, Q_HC23, Q_HD23, Q_HC25, Q_HC29, Q_HC36, Q_HD36, Q_HC38, Q_HC42, Q_X2_, Q_X4_, Q_X6_, Q_X10_, Q_X15_, Q_X17_, Q_X19_, Q_X23_⟩ := hI_
      have e45 : a.tmps[45]? = some (.bool true) := by rw [ha]; exact putSel_on (e := (26, 45, .bool true)) 26 rfl rfl (hon 26 (by kernel_rfl)) rfl
      replace ha := Aside0.mk ha
      have HBB := Aside0.mk Q_HBB
      have HC23 := Aside0.mk (Q_HC23 (hon 4 (by kernel_rfl)))
      have HD23 := Aside0.mk (Q_HD23 (hon 4 (by kernel_rfl)))
      have HC25 := Aside0.mk (Q_HC25 (hon 6 (by kernel_rfl)))
      have HC29 := Aside0.mk (Q_HC29 (hon 10 (by kernel_rfl)))
      have HC36 := Aside0.mk (Q_HC36 (hon 17 (by kernel_rfl)))
      have HD36 := Aside0.mk (Q_HD36 (hon 17 (by kernel_rfl)))
      have HC38 := Aside0.mk (Q_HC38 (hon 19 (by kernel_rfl)))
      have HC42 := Aside0.mk (Q_HC42 (hon 23 (by kernel_rfl)))
      refine value_ (w1 := w') (v := .bool true) (by rfl) rfl ?_ ?_
      · go_simp
        (try simp only [i64_w])
        try rfl
      refine hK.out _ _ ⟨g21, g34, B23, d23, B25, d25, B29, d29, B36, d36, B38, d38, B42, d42, m2_, m4_, m6_, m10_, m15_, m17_, m19_, m23_, (by rw [ha.out]; exact putSel_upk 27 hb_ rfl rfl rfl), Q_HBB, Q_HC23, Q_HD23, Q_HC25, Q_HC29, Q_HC36, Q_HD36, Q_HC38, Q_HC42, Q_X2_, Q_X4_, Q_X6_, Q_X10_, Q_X15_, Q_X17_, Q_X19_, Q_X23_⟩
    exact steps_nil
  rintro b a wz hall ⟨g21, g34, B23, d23, B25, d25, B29, d29, B36, d36, B38, d38, B42, d42, m2_, m4_, m6_, m10_, m15_, m17_, m19_, m23_, ha, Q_HBB, Q_HC23, Q_HD23, Q_HC25, Q_HC29, Q_HC36, Q_HD36, Q_HC38, Q_HC42, Q_X2_, Q_X4_, Q_X6_, Q_X10_, Q_X15_, Q_X17_, Q_X19_, Q_X23_⟩
  clear HBB
  have hb0_ := hall 0 (by kernel_rfl)
  have hb1_ := hall 1 (by kernel_rfl)
  have hb2_ := hall 2 (by kernel_rfl)
  have hb3_ := hall 3 (by kernel_rfl)
  have hb4_ := hall 4 (by kernel_rfl)
  have hb5_ := hall 5 (by kernel_rfl)
  have hb6_ := hall 6 (by kernel_rfl)
  have hb7_ := hall 7 (by kernel_rfl)
  have hb8_ := hall 8 (by kernel_rfl)
  have hb9_ := hall 9 (by kernel_rfl)
  have hb10_ := hall 10 (by kernel_rfl)
  have hb11_ := hall 11 (by kernel_rfl)
  have hb12_ := hall 12 (by kernel_rfl)
  have hb13_ := hall 13 (by kernel_rfl)
  have hb14_ := hall 14 (by kernel_rfl)
  have hb15_ := hall 15 (by kernel_rfl)
  have hb16_ := hall 16 (by kernel_rfl)
  have hb17_ := hall 17 (by kernel_rfl)
  have hb18_ := hall 18 (by kernel_rfl)
  have hb19_ := hall 19 (by kernel_rfl)
  have hb20_ := hall 20 (by kernel_rfl)
  have hb21_ := hall 21 (by kernel_rfl)
  have hb22_ := hall 22 (by kernel_rfl)
  have hb23_ := hall 23 (by kernel_rfl)
  have hb24_ := hall 24 (by kernel_rfl)
  have hb25_ := hall 25 (by kernel_rfl)
  have hb26_ := hall 26 (by kernel_rfl)
  have hb27_ := hall 27 (by kernel_rfl)
  subst ha
  obtain rfl := Q_X2_ hb2_
  obtain rfl := Q_X4_ hb4_
  obtain rfl := Q_X6_ hb6_
  obtain rfl := Q_X10_ hb10_
  obtain rfl := Q_X15_ hb15_
  obtain rfl := Q_X17_ hb17_
  obtain rfl := Q_X19_ hb19_
  obtain rfl := Q_X23_ hb23_
  simp only [putSel, hb0_, hb1_, hb2_, hb3_, hb4_, hb5_, hb6_, hb7_, hb8_, hb9_, hb10_, hb11_, hb12_, hb13_, hb14_, hb15_, hb16_, hb17_, hb18_, hb19_, hb20_, hb21_, hb22_, hb23_, hb24_, hb25_, hb26_, hb27_, if_true, Act.put, List.setIfInBounds_toArray, List.set_cons_zero, List.set_cons_succ]
  have HBB := Aside0.mk Q_HBB
  clear Q_HBB
  have HC23 := Aside0.mk (Q_HC23 hb4_)
  clear Q_HC23
  have HD23 := Aside0.mk (Q_HD23 hb4_)
  clear Q_HD23
  have HC25 := Aside0.mk (Q_HC25 hb6_)
  clear Q_HC25
  have HC29 := Aside0.mk (Q_HC29 hb10_)
  clear Q_HC29
  have HC36 := Aside0.mk (Q_HC36 hb17_)
  clear Q_HC36
  have HD36 := Aside0.mk (Q_HD36 hb17_)
  clear Q_HD36
  have HC38 := Aside0.mk (Q_HC38 hb19_)
  clear Q_HC38
  have HC42 := Aside0.mk (Q_HC42 hb23_)
  clear Q_HC42
  clear hall hb0_ hb1_ hb2_ hb3_ hb4_ hb5_ hb6_ hb7_ hb8_ hb9_ hb10_ hb11_ hb12_ hb13_ hb14_ hb15_ hb16_ hb17_ hb18_ hb19_ hb20_ hb21_ hb22_ hb23_ hb24_ hb25_ hb26_ hb27_
  go_wp2
  go_ret
  exact ⟨rfl, below_step HB.out HBB.out⟩
end Go.Proofs.Ytnkaighdajickaa.Num

/- The statement NumBehind: the walk of the law. -/
import Derived.Test.YtnkaighdajickaaN4
namespace Go.Proofs.Ytnkaighdajickaa.Num
open Go.RowKit Go.Proofs.YtnkaighdajickaaW.PrintWords Go.Proofs.YtnkaighdajickaaW.PrintLast Go.Proofs.YtnkaighdajickaaW.PrintMore
set_option linter.unusedVariables false
set_option linter.unusedSimpArgs false

open Go.Proofs.YtnkaighdajickaaW.PrintLast
def D4.T7 : Bool × List (List Nat × List Nat) := (true, [([], []), ([0], [0]), ([1], [1]), ([2, 1], [1, 2]), ([1], [1]), ([4, 1], [1, 4]), ([1], [1]), ([6, 1, 1], [1, 6]), ([7, 1], [1, 7]), ([5, 8, 1], [1, 5, 8]), ([3, 9, 1], [1, 3, 9]), ([1, 10], [1, 10]), ([11, 7], [11]), ([12], [12]), ([13, 12], [12, 13]), ([12], [12]), ([15, 12], [12, 15]), ([12], [12]), ([17, 12, 12], [12, 17]), ([18, 12], [12, 18]), ([16, 19, 12], [12, 16, 19]), ([14, 20, 12], [12, 14, 20]), ([12, 21], [12, 21]), ([22, 18], [22]), ([23], [23]), ([24, 23], [23, 24]), ([23], [23]), ([26, 23], [23, 26]), ([25, 27, 23], [23, 25, 27]), ([23, 28], [23, 28]), ([29, 23, 0, 1, 2, 3, 4, 5, 6, 7, 8, 9, 10, 11, 12, 13, 14, 15, 16, 17, 18, 19, 20, 21, 22, 23, 24, 25, 26, 27, 28, 29], [29])])
def D4.B7 : List Nat := [0, 1, 3, 7, 3, 19, 3, 67, 195, 499, 1023, 2047, 4095, 8191, 16383, 8191, 40959, 8191, 139263, 401407, 1023999, 2097151, 4194303, 8388607, 16777215, 33554431, 16777215, 83886079, 268435455, 536870911, 1073741823]
theorem D4.tab7 : rtab .any (opsOf Try.f4 7) = D4.T7 := by kernel_rfl
theorem D4.bits7 : waitsOk D4.T7.2 D4.B7 = true := by kernel_rfl
theorem behind_law (A0 : Option Addr) (len cap : Nat) (z : List Int) (x y : Int) (w : World)
    (w0 : (A0 = none ∧ len = 0 ∧ cap = 0 ∧ z = []) ∨ ∃ x, A0 = some x ∧ len ≤ cap ∧ cap ≤ maxLen ∧ z.length = cap ∧ (∀ i, i < z.length → w.cell? (x.add i) = some (.int .u8 (z.getD i 0))) ∧ ∀ n ∈ z, (Lit.int .u8 n).wf = true) (y0 : len * 1 ≤ 140737488351232)
    (wx : (Lit.int .i64 x).wf = true) (wy : (Lit.int .i64 y).wf = true) :
    Calls Try.prog 4 #[.slice A0 len cap, .int .i64 x, .int .i64 y] w fun e w' => e = .returned (.bool true) ∧ Below w.heap.size w w' := by
  obtain ⟨hx1, hx2⟩ := wf_range wx
  obtain ⟨hy1, hy2⟩ := wf_range wy
  obtain ⟨l, rfl, hr, hm, hw, hc⟩ := ReadsInt.ofRowC w0
  have hC := Kd.C_of_reads (d := (0 : Int)) (h1 := fun _ => rfl) hr
  have HR0 := Aside0.mk hC
  have HBY := Aside0.mk (isBytes_wf hw)
  clear w0 hr hw hC
  go_enter Try.func4, Try.ntmps4
  go_upto_if 14 with ((go_at_call 11; refine (shown_calls _).mono ?_; rintro e w1 ⟨rfl, hb⟩; have HB := Aside0.mk hb; clear hb))
  obtain ⟨n, hn⟩ : ∃ n, n = min 60 l.length := ⟨_, rfl⟩
  have hn1 : n ≤ 60 := by omega
  have hn2 : n ≤ l.length := by omega
  go_cut [0] (fun v0 wc => v0 = .slice A0 n cap ∧ w1 = wc)
  case first =>
    by_cases h60 : 60 < l.length
    · have e : n = 60 := by omega
      subst e
      clear hn
      go_wp2
      go_meet
      case rel => exact ⟨rfl, rfl⟩
    · have e : n = l.length := by omega
      subst e
      clear hn
      go_wp2
      go_meet
      case rel => exact ⟨rfl, rfl⟩
  case rest =>
  obtain ⟨rfl, rfl⟩ := hcut
  have hcap : n ≤ cap := by omega
  obtain ⟨lb, hlb⟩ : ∃ lb, lb = l.take n := ⟨_, rfl⟩
  have hlen : lb.length = n := by rw [hlb, List.length_take]; omega
  have HLB := Aside0.mk (show (Kd.int .u8).C w A0 lb.length lb by rw [hlen, hlb]; exact take_C HR0.out hn2)
  have HBY2 := Aside0.mk (show isBytes lb by rw [hlb]; exact isBytes_take HBY.out n)
  clear hlb hn HR0 HBY
  subst hlen
  go_wp2_with (first
    | ((with_reducible refine gate_dst (N := 17) rfl ?_); refine Gen.R_makeCap (Kd.int .u8) (w0 := w) w.heap.size 5 rfl 23 (.const (.int .i64 0)) (.const (.int .i64 200)) rfl (0 : Int) (200 : Int) rfl rfl Try.underlying23 (.int .u8 0) 1 info_u8 rfl (by decide) (by decide) 0 (fun _ _ _ => rfl) (by omega) (by omega) (by omega) (by repeat (first | (with_reducible first | exact HB.out | apply below_alloc | apply pw_below_drewN | apply below_drew1) | exact HB.out)) (below_size (by repeat (first | (with_reducible first | exact HB.out | apply below_alloc | apply pw_below_drewN | apply below_drew1) | exact HB.out))) ?_; intro v1 w1 ho hb hg hat; have n0_ := Aside0.mk hb; have n1_ := Aside0.mk (Kd.R_lower ho (below_size (by repeat (first | (with_reducible first | exact HB.out | apply below_alloc | apply pw_below_drewN | apply below_drew1) | exact HB.out)))); clear HB; have HB := n0_; have HO1 := n1_; clear n0_ n1_ ho hb hg hat)
    | ((with_reducible refine gate_builtin (b := .append) (xs := #[.tmp 17, .tmp 18]) rfl ?_); at_builtin; refine Kd.R_append_rows (Kd.int .u8) (w0 := w) w.heap.size rfl (.tmp 17) (.tmp 18) 23 5 (.int .u8 0) 1 rfl Try.underlying23 info_u8 rfl (by decide) (by omega) v1 (List.replicate (0 : Int).toNat 0) lb _ _ _ (fun _ => True) (fun _ => False) rfl rfl ?aO ?aR (fun _ _ h => h) (fun _ h => h.elim) ?aF ?aB ?aS ?aL ?_; (case aR => exact (by repeat (first | exact (Kd.C_below HLB.out HB.out) | (with_reducible refine Kd.C_alloc ?_ _) | (with_reducible refine Kd.C_drewN ?_ _) | (with_reducible refine Kd.C_drew ?_)))); (case aB => exact (by repeat (first | (with_reducible first | exact HB.out | apply below_alloc | apply pw_below_drewN | apply below_drew1) | exact HB.out))); (case aF => exact (fun _ _ => trivial)); (case aO => exact (by (with_reducible repeat (first | apply Kd.R_alloc | apply Kd.R_drewN | apply Kd.R_drew)); exact HO1.out)); (case aS => exact (below_size (by repeat (first | (with_reducible first | exact HB.out | apply below_alloc | apply pw_below_drewN | apply below_drew1) | exact HB.out)))); (case aL => simp only [List.length_replicate]; omega); intro v2 w2 ho hb hg hat; have n0_ := Aside0.mk (hb); have n1_ := Aside0.mk (ho); clear HB; clear HO1; have HB := n0_; have HO2 := n1_; clear n0_ n1_; clear ho hb hg hat))
  obtain ⟨A8, c8, rfl, hc8, hC8⟩ := Kd.R_reads (show (Kd.int .u8).R 5 w2 w.heap.size (fun _ => True) v2 lb from HO2.out)
  have hl8 : lb.length ≤ 100 := by omega
  obtain ⟨ex, hex⟩ : ∃ ex, ex = enc x := ⟨_, rfl⟩
  obtain ⟨ey, hey⟩ : ∃ ey, ey = enc y := ⟨_, rfl⟩
  obtain ⟨l9, h9⟩ : ∃ l9, l9 = lb ++ enc x := ⟨_, rfl⟩
  obtain ⟨l10, h10⟩ : ∃ l10, l10 = lb ++ enc y := ⟨_, rfl⟩
  have HEX := Aside0.mk hex
  have HEY := Aside0.mk hey
  have H9 := Aside0.mk h9
  have H10 := Aside0.mk h10
  clear hex hey h9 h10
  refine (put_calls A8 c8 lb x _ hC8 hc8 hx1 hx2 (by omega)).mono ?_
  rw [← H9.out]
  rintro e w3 ⟨v3, rfl, ho, hb⟩
  obtain ⟨A9, c9, rfl, hc9, hC9⟩ := Kd.R_reads ho
  have n_ := Aside0.mk (below_step HB.out hb); have n1_ := Aside0.mk (Kd.C_below hC8 hb); clear HB HO2 hb ho hC8; have HB := n_; have HC8 := n1_; clear n_ n1_
  have HC9 := Aside0.mk hC9
  clear hC9
  go_wp2_with fail
  refine (put_calls A8 c8 lb y _ HC8.out hc8 hy1 hy2 (by omega)).mono ?_
  rw [← H10.out]
  rintro e w4 ⟨v4, rfl, ho, hb⟩
  obtain ⟨A10, c10, rfl, hc10, hC10⟩ := Kd.R_reads ho
  have n_ := Aside0.mk (below_step HB.out hb); have n1_ := Aside0.mk (Kd.C_below HC8.out hb); have n2_ := Aside0.mk (Kd.C_below HC9.out hb); have n3_ := Aside0.mk (Kd.C_below HLB.out (below_step HB.out hb)); clear HB HC8 HC9 HLB hb ho; have HB := n_; have HC8 := n1_; have HC9 := n2_; have HLB := n3_; clear n_ n1_ n2_ n3_
  have HC10 := Aside0.mk hC10
  clear hC10
  have hcmp1 : ((strOfNums l9).toList == (strOfNums lb ++ strOfNums ex).toList) = true := by rw [H9.out, HEX.out, str_append, beq_self_eq_true]
  have hcmp2 : ((strOfNums l10).toList == (strOfNums lb ++ strOfNums ey).toList) = true := by rw [H10.out, HEY.out, str_append, beq_self_eq_true]
  have hlx : ex.length ≤ 10 := by rw [HEX.out]; exact enc_len ⟨hx1, hx2⟩
  have hly : ey.length ≤ 10 := by rw [HEY.out]; exact enc_len ⟨hy1, hy2⟩
  have hs1 : (strOfNums lb).size + (strOfNums ex).size ≤ 9223372036854775807 := by rw [strOfNums_size, strOfNums_size]; omega
  have hs2 : (strOfNums lb).size + (strOfNums ey).size ≤ 9223372036854775807 := by rw [strOfNums_size, strOfNums_size]; omega
  have HBB := Aside0.mk (below_drew (Below.refl w4.heap.size w4))
  go_wp2_with fail
  refine start_ (n := 31) (S := fun w' => True) (ds := []) #[false, false, false, false, false, false, false, false, false, false, false, false, false, false, false, false, false, false, false, false, false, false, false, false, false, false, false, false, false, false, false] (by kernel_rfl) rfl rfl trivial (fun hHeld => ?_); refine with_tabW D4.tab7 D4.bits7 (fun HT_ HW_ => ?_)
  refine inv_at [0, 1, 2, 3, 4, 5, 6, 7, 8, 9, 10, 11, 12, 13, 14, 15, 16, 17, 18, 19, 20, 21, 22, 23, 24, 25, 26, 27, 28, 29, 30] (fun a0_ b a w' => ∃ (B1 : Option Addr) (d1 : Nat) (B2 : Option Addr) (d2 : Nat) (m7_ : Value) (m18_ : Value), a = putSel a0_ b [(0, 26, .bool true), (1, 27, .bool true), (2, 28, .slice A9 l9.length c9), (3, 29, .string (strOfNums l9)), (4, 30, .slice A0 lb.length cap), (5, 31, .string (strOfNums lb)), (6, 32, .int .i64 x), (7, 33, m7_), (8, 34, .string (strOfNums ex)), (9, 35, .string (strOfNums lb ++ strOfNums ex)), (10, 36, .bool true), (11, 37, .bool true), (12, 38, .bool true), (13, 39, .slice A10 l10.length c10), (14, 40, .string (strOfNums l10)), (15, 41, .slice A0 lb.length cap), (16, 42, .string (strOfNums lb)), (17, 43, .int .i64 y), (18, 44, m18_), (19, 45, .string (strOfNums ey)), (20, 46, .string (strOfNums lb ++ strOfNums ey)), (21, 47, .bool true), (22, 48, .bool true), (23, 49, .bool true), (24, 50, .slice A8 lb.length c8), (25, 51, .string (strOfNums lb)), (26, 52, .slice A0 lb.length cap), (27, 53, .string (strOfNums lb)), (28, 54, .bool true), (29, 55, .bool true), (30, 6, .bool true)] ∧ (Below w4.heap.size w4 w') ∧ (b 7 = true → (Kd.int .u8).C w' B1 ex.length ex) ∧ (b 18 = true → (Kd.int .u8).C w' B2 ey.length ey) ∧ (b 7 = true → (m7_ : Value) = .slice B1 ex.length d1) ∧ (b 18 = true → (m18_ : Value) = .slice B2 ey.length d2)) HT_.out HW_.out (by kernel_rfl) (by kernel_rfl) ?_ ?_ ?_
  · exact ⟨none, 0, none, 0, .bool false, .bool false, by simp only [putSel, Bool.false_eq_true, if_false], HBB.out, fun h_ => absurd h_ (by decide), fun h_ => absurd h_ (by decide), fun h_ => absurd h_ (by decide), fun h_ => absurd h_ (by decide)⟩
  · clear HT_ HW_ hHeld
    clear HBB
    refine steps_cons ?_ ?_
    · intro b a w' hI_ hb_ hon hoff
      refine ⟨_, rfl, fun K hK => ?_⟩
      obtain ⟨B1, d1, B2, d2, m7_, m18_, ha, Q_HBB, Q_HC33, Q_HC44, Q_X7_, Q_X18_⟩ := hI_
      have e7 : a.tmps[7]? = some (.bool true) := by rw [ha]; exact (putSel_off rfl).trans rfl
      replace ha := Aside0.mk ha
      have HBB := Aside0.mk Q_HBB
      refine value_ (w1 := w') (v := .bool true) (by rfl) rfl ?_ ?_
      · go_simp
        (try simp only [i64_w])
        try rfl
      refine hK.out _ _ ⟨B1, d1, B2, d2, m7_, m18_, (by rw [ha.out]; exact putSel_upk 0 hb_ rfl rfl rfl), Q_HBB, fun h0_ => absurd ((hoff 7 (by kernel_rfl)).symm.trans h0_) (by decide), fun h0_ => absurd ((hoff 18 (by kernel_rfl)).symm.trans h0_) (by decide), fun h0_ => absurd ((hoff 7 (by kernel_rfl)).symm.trans h0_) (by decide), fun h0_ => absurd ((hoff 18 (by kernel_rfl)).symm.trans h0_) (by decide)⟩
    refine steps_cons ?_ ?_
    · intro b a w' hI_ hb_ hon hoff
      refine ⟨_, rfl, fun K hK => ?_⟩
      obtain ⟨B1, d1, B2, d2, m7_, m18_, ha, Q_HBB, Q_HC33, Q_HC44, Q_X7_, Q_X18_⟩ := hI_
      have e26 : a.tmps[26]? = some (.bool true) := by rw [ha]; exact putSel_on (e := (0, 26, .bool true)) 0 rfl rfl (hon 0 (by kernel_rfl)) rfl
      replace ha := Aside0.mk ha
      have HBB := Aside0.mk Q_HBB
      refine value_ (w1 := w') (v := .bool true) (by rfl) rfl ?_ ?_
      · go_simp
        (try simp only [i64_w])
        try rfl
      refine hK.out _ _ ⟨B1, d1, B2, d2, m7_, m18_, (by rw [ha.out]; exact putSel_upk 1 hb_ rfl rfl rfl), Q_HBB, fun h0_ => absurd ((hoff 7 (by kernel_rfl)).symm.trans h0_) (by decide), fun h0_ => absurd ((hoff 18 (by kernel_rfl)).symm.trans h0_) (by decide), fun h0_ => absurd ((hoff 7 (by kernel_rfl)).symm.trans h0_) (by decide), fun h0_ => absurd ((hoff 18 (by kernel_rfl)).symm.trans h0_) (by decide)⟩
    refine steps_cons ?_ ?_
    · intro b a w' hI_ hb_ hon hoff
      refine ⟨_, rfl, fun K hK => ?_⟩
      obtain ⟨B1, d1, B2, d2, m7_, m18_, ha, Q_HBB, Q_HC33, Q_HC44, Q_X7_, Q_X18_⟩ := hI_
      have e9 : a.tmps[9]? = some (.slice A9 l9.length c9) := by rw [ha]; exact (putSel_off rfl).trans rfl
      have e27 : a.tmps[27]? = some (.bool true) := by rw [ha]; exact putSel_on (e := (1, 27, .bool true)) 1 rfl rfl (hon 1 (by kernel_rfl)) rfl
      replace ha := Aside0.mk ha
      have HBB := Aside0.mk Q_HBB
      refine value_ (w1 := w') (v := .slice A9 l9.length c9) (wanted_on rfl rfl rfl (e27.trans (by first | rfl | (simp [*]; done)))) rfl ?_ ?_
      · go_simp
        (try simp only [i64_w])
        try rfl
      refine hK.out _ _ ⟨B1, d1, B2, d2, m7_, m18_, (by rw [ha.out]; exact putSel_upk 2 hb_ rfl rfl rfl), Q_HBB, Q_HC33, fun h0_ => absurd ((hoff 18 (by kernel_rfl)).symm.trans h0_) (by decide), Q_X7_, fun h0_ => absurd ((hoff 18 (by kernel_rfl)).symm.trans h0_) (by decide)⟩
    refine steps_cons ?_ ?_
    · intro b a w' hI_ hb_ hon hoff
      refine ⟨_, rfl, fun K hK => ?_⟩
      obtain ⟨B1, d1, B2, d2, m7_, m18_, ha, Q_HBB, Q_HC33, Q_HC44, Q_X7_, Q_X18_⟩ := hI_
      have e28 : a.tmps[28]? = some (.slice A9 l9.length c9) := by rw [ha]; exact putSel_on (e := (2, 28, .slice A9 l9.length c9)) 2 rfl rfl (hon 2 (by kernel_rfl)) rfl
      have e27 : a.tmps[27]? = some (.bool true) := by rw [ha]; exact putSel_on (e := (1, 27, .bool true)) 1 rfl rfl (hon 1 (by kernel_rfl)) rfl
      replace ha := Aside0.mk ha
      have HBB := Aside0.mk Q_HBB
      have hcv := Kd.C_string (P := Try.prog) (c := c9) Try.underlying23 Try.underlying5 Try.underlying9 (Kd.C_below HC9.out HBB.out)
      refine value_ (w1 := w') (v := .string (strOfNums l9)) (wanted_on rfl rfl rfl (e27.trans (by first | rfl | (simp [*]; done)))) rfl ?_ ?_
      · go_simp
        (try simp only [i64_w])
        try rfl
      refine hK.out _ _ ⟨B1, d1, B2, d2, m7_, m18_, (by rw [ha.out]; exact putSel_upk 3 hb_ rfl rfl rfl), Q_HBB, Q_HC33, fun h0_ => absurd ((hoff 18 (by kernel_rfl)).symm.trans h0_) (by decide), Q_X7_, fun h0_ => absurd ((hoff 18 (by kernel_rfl)).symm.trans h0_) (by decide)⟩
    refine steps_cons ?_ ?_
    · intro b a w' hI_ hb_ hon hoff
      refine ⟨_, rfl, fun K hK => ?_⟩
      obtain ⟨B1, d1, B2, d2, m7_, m18_, ha, Q_HBB, Q_HC33, Q_HC44, Q_X7_, Q_X18_⟩ := hI_
      have e0 : a.tmps[0]? = some (.slice A0 lb.length cap) := by rw [ha]; exact (putSel_off rfl).trans rfl
      have e27 : a.tmps[27]? = some (.bool true) := by rw [ha]; exact putSel_on (e := (1, 27, .bool true)) 1 rfl rfl (hon 1 (by kernel_rfl)) rfl
      replace ha := Aside0.mk ha
      have HBB := Aside0.mk Q_HBB
      refine value_ (w1 := w') (v := .slice A0 lb.length cap) (wanted_on rfl rfl rfl (e27.trans (by first | rfl | (simp [*]; done)))) rfl ?_ ?_
      · go_simp
        (try simp only [i64_w])
        try rfl
      refine hK.out _ _ ⟨B1, d1, B2, d2, m7_, m18_, (by rw [ha.out]; exact putSel_upk 4 hb_ rfl rfl rfl), Q_HBB, Q_HC33, fun h0_ => absurd ((hoff 18 (by kernel_rfl)).symm.trans h0_) (by decide), Q_X7_, fun h0_ => absurd ((hoff 18 (by kernel_rfl)).symm.trans h0_) (by decide)⟩
    refine steps_cons ?_ ?_
    · intro b a w' hI_ hb_ hon hoff
      refine ⟨_, rfl, fun K hK => ?_⟩
      obtain ⟨B1, d1, B2, d2, m7_, m18_, ha, Q_HBB, Q_HC33, Q_HC44, Q_X7_, Q_X18_⟩ := hI_
      have e30 : a.tmps[30]? = some (.slice A0 lb.length cap) := by rw [ha]; exact putSel_on (e := (4, 30, .slice A0 lb.length cap)) 4 rfl rfl (hon 4 (by kernel_rfl)) rfl
      have e27 : a.tmps[27]? = some (.bool true) := by rw [ha]; exact putSel_on (e := (1, 27, .bool true)) 1 rfl rfl (hon 1 (by kernel_rfl)) rfl
      replace ha := Aside0.mk ha
      have HBB := Aside0.mk Q_HBB
      have hcv := Kd.C_string (P := Try.prog) (c := cap) Try.underlying23 Try.underlying5 Try.underlying9 (Kd.C_below HLB.out HBB.out)
      refine value_ (w1 := w') (v := .string (strOfNums lb)) (wanted_on rfl rfl rfl (e27.trans (by first | rfl | (simp [*]; done)))) rfl ?_ ?_
      · go_simp
        (try simp only [i64_w])
        try rfl
      refine hK.out _ _ ⟨B1, d1, B2, d2, m7_, m18_, (by rw [ha.out]; exact putSel_upk 5 hb_ rfl rfl rfl), Q_HBB, Q_HC33, fun h0_ => absurd ((hoff 18 (by kernel_rfl)).symm.trans h0_) (by decide), Q_X7_, fun h0_ => absurd ((hoff 18 (by kernel_rfl)).symm.trans h0_) (by decide)⟩
    refine steps_cons ?_ ?_
    · intro b a w' hI_ hb_ hon hoff
      refine ⟨_, rfl, fun K hK => ?_⟩
      obtain ⟨B1, d1, B2, d2, m7_, m18_, ha, Q_HBB, Q_HC33, Q_HC44, Q_X7_, Q_X18_⟩ := hI_
      have e1 : a.tmps[1]? = some (.int .i64 x) := by rw [ha]; exact (putSel_off rfl).trans rfl
      have e27 : a.tmps[27]? = some (.bool true) := by rw [ha]; exact putSel_on (e := (1, 27, .bool true)) 1 rfl rfl (hon 1 (by kernel_rfl)) rfl
      replace ha := Aside0.mk ha
      have HBB := Aside0.mk Q_HBB
      refine value_ (w1 := w') (v := .int .i64 x) (wanted_on rfl rfl rfl (e27.trans (by first | rfl | (simp [*]; done)))) rfl ?_ ?_
      · go_simp
        (try simp only [i64_w])
        try rfl
      refine hK.out _ _ ⟨B1, d1, B2, d2, m7_, m18_, (by rw [ha.out]; exact putSel_upk 6 hb_ rfl rfl rfl), Q_HBB, fun h0_ => absurd ((hoff 7 (by kernel_rfl)).symm.trans h0_) (by decide), fun h0_ => absurd ((hoff 18 (by kernel_rfl)).symm.trans h0_) (by decide), fun h0_ => absurd ((hoff 7 (by kernel_rfl)).symm.trans h0_) (by decide), fun h0_ => absurd ((hoff 18 (by kernel_rfl)).symm.trans h0_) (by decide)⟩
    refine steps_cons ?_ ?_
    · intro b a w' hI_ hb_ hon hoff
      refine ⟨_, rfl, fun K hK => ?_⟩
      obtain ⟨B1, d1, B2, d2, m7_, m18_, ha, Q_HBB, Q_HC33, Q_HC44, Q_X7_, Q_X18_⟩ := hI_
      have e32 : a.tmps[32]? = some (.int .i64 x) := by rw [ha]; exact putSel_on (e := (6, 32, .int .i64 x)) 6 rfl rfl (hon 6 (by kernel_rfl)) rfl
      have e27 : a.tmps[27]? = some (.bool true) := by rw [ha]; exact putSel_on (e := (1, 27, .bool true)) 1 rfl rfl (hon 1 (by kernel_rfl)) rfl
      replace ha := Aside0.mk ha
      have HBB := Aside0.mk Q_HBB
      refine goes_ Try.func12 (by kernel_rfl) rfl #[.slice none 0 0, .int .i64 x] (wanted_on rfl rfl rfl (e27.trans (by first | rfl | (simp [*]; done)))) rfl rfl (by first | (simp only [List.map_toArray, List.map_cons, List.map_nil, Act.eval, Array.getD_eq_getD_getElem?, Option.getD_some, e32, e27]; done) | (simp only [List.map_toArray, List.map_cons, List.map_nil, Act.eval, Array.getD_eq_getD_getElem?, Option.getD_some, e32, e27]; rfl)) ?_
      with_reducible refine (putNil_calls ex x _ (by omega) (by omega) HEX.out).mono ?_
      rintro e w3 ⟨B1, d1, rfl, hc_, hC_, hb_2⟩
      refine ⟨_, rfl, ?_⟩
      refine hK.out _ _ ⟨B1, d1, B2, d2, (.slice B1 ex.length d1), m18_, (by rw [ha.out]; exact putSel_upk 7 hb_ rfl rfl rfl), below_step HBB.out hb_2, fun _ => hC_, fun h0_ => absurd ((hoff 18 (by kernel_rfl)).symm.trans h0_) (by decide), fun _ => rfl, fun h0_ => absurd ((hoff 18 (by kernel_rfl)).symm.trans h0_) (by decide)⟩
    refine steps_cons ?_ ?_
    · intro b a w' hI_ hb_ hon hoff
      refine ⟨_, rfl, fun K hK => ?_⟩
      obtain ⟨B1, d1, B2, d2, m7_, m18_, ha, Q_HBB, Q_HC33, Q_HC44, Q_X7_, Q_X18_⟩ := hI_
      have e33 : a.tmps[33]? = some (m7_) := by rw [ha]; exact putSel_on (e := (7, 33, m7_)) 7 rfl rfl (hon 7 (by kernel_rfl)) rfl
      rw [Q_X7_ (hon 7 (by kernel_rfl))] at e33
      have e27 : a.tmps[27]? = some (.bool true) := by rw [ha]; exact putSel_on (e := (1, 27, .bool true)) 1 rfl rfl (hon 1 (by kernel_rfl)) rfl
      replace ha := Aside0.mk ha
      have HBB := Aside0.mk Q_HBB
      have HC33 := Aside0.mk (Q_HC33 (hon 7 (by kernel_rfl)))
      have hcv := Kd.C_string (P := Try.prog) (c := d1) Try.underlying23 Try.underlying5 Try.underlying9 HC33.out
      refine value_ (w1 := w') (v := .string (strOfNums ex)) (wanted_on rfl rfl rfl (e27.trans (by first | rfl | (simp [*]; done)))) rfl ?_ ?_
      · go_simp
        (try simp only [i64_w])
        try rfl
      refine hK.out _ _ ⟨B1, d1, B2, d2, m7_, m18_, (by rw [ha.out]; exact putSel_upk 8 hb_ rfl rfl rfl), Q_HBB, Q_HC33, fun h0_ => absurd ((hoff 18 (by kernel_rfl)).symm.trans h0_) (by decide), Q_X7_, fun h0_ => absurd ((hoff 18 (by kernel_rfl)).symm.trans h0_) (by decide)⟩
    refine steps_cons ?_ ?_
    · intro b a w' hI_ hb_ hon hoff
      refine ⟨_, rfl, fun K hK => ?_⟩
      obtain ⟨B1, d1, B2, d2, m7_, m18_, ha, Q_HBB, Q_HC33, Q_HC44, Q_X7_, Q_X18_⟩ := hI_
      have e31 : a.tmps[31]? = some (.string (strOfNums lb)) := by rw [ha]; exact putSel_on (e := (5, 31, .string (strOfNums lb))) 5 rfl rfl (hon 5 (by kernel_rfl)) rfl
      have e34 : a.tmps[34]? = some (.string (strOfNums ex)) := by rw [ha]; exact putSel_on (e := (8, 34, .string (strOfNums ex))) 8 rfl rfl (hon 8 (by kernel_rfl)) rfl
      have e27 : a.tmps[27]? = some (.bool true) := by rw [ha]; exact putSel_on (e := (1, 27, .bool true)) 1 rfl rfl (hon 1 (by kernel_rfl)) rfl
      replace ha := Aside0.mk ha
      have HBB := Aside0.mk Q_HBB
      have HC33 := Aside0.mk (Q_HC33 (hon 7 (by kernel_rfl)))
      refine value_ (w1 := w') (v := .string (strOfNums lb ++ strOfNums ex)) (wanted_on rfl rfl rfl (e27.trans (by first | rfl | (simp [*]; done)))) rfl ?_ ?_
      · go_simp
        (try simp only [i64_w])
        try rfl
      refine hK.out _ _ ⟨B1, d1, B2, d2, m7_, m18_, (by rw [ha.out]; exact putSel_upk 9 hb_ rfl rfl rfl), Q_HBB, Q_HC33, fun h0_ => absurd ((hoff 18 (by kernel_rfl)).symm.trans h0_) (by decide), Q_X7_, fun h0_ => absurd ((hoff 18 (by kernel_rfl)).symm.trans h0_) (by decide)⟩
    refine steps_cons ?_ ?_
    · intro b a w' hI_ hb_ hon hoff
      refine ⟨_, rfl, fun K hK => ?_⟩
      obtain ⟨B1, d1, B2, d2, m7_, m18_, ha, Q_HBB, Q_HC33, Q_HC44, Q_X7_, Q_X18_⟩ := hI_
      have e29 : a.tmps[29]? = some (.string (strOfNums l9)) := by rw [ha]; exact putSel_on (e := (3, 29, .string (strOfNums l9))) 3 rfl rfl (hon 3 (by kernel_rfl)) rfl
      have e35 : a.tmps[35]? = some (.string (strOfNums lb ++ strOfNums ex)) := by rw [ha]; exact putSel_on (e := (9, 35, .string (strOfNums lb ++ strOfNums ex))) 9 rfl rfl (hon 9 (by kernel_rfl)) rfl
      have e27 : a.tmps[27]? = some (.bool true) := by rw [ha]; exact putSel_on (e := (1, 27, .bool true)) 1 rfl rfl (hon 1 (by kernel_rfl)) rfl
      replace ha := Aside0.mk ha
      have HBB := Aside0.mk Q_HBB
      have HC33 := Aside0.mk (Q_HC33 (hon 7 (by kernel_rfl)))
      refine value_ (w1 := w') (v := .bool true) (wanted_on rfl rfl rfl (e27.trans (by first | rfl | (simp [*]; done)))) rfl ?_ ?_
      · go_simp
        (try simp only [i64_w])
        try rfl
      refine hK.out _ _ ⟨B1, d1, B2, d2, m7_, m18_, (by rw [ha.out]; exact putSel_upk 10 hb_ rfl rfl rfl), Q_HBB, Q_HC33, fun h0_ => absurd ((hoff 18 (by kernel_rfl)).symm.trans h0_) (by decide), Q_X7_, fun h0_ => absurd ((hoff 18 (by kernel_rfl)).symm.trans h0_) (by decide)⟩
    refine steps_cons ?_ ?_
    · intro b a w' hI_ hb_ hon hoff
      refine ⟨_, rfl, fun K hK => ?_⟩
      obtain ⟨B1, d1, B2, d2, m7_, m18_, ha, Q_HBB, Q_HC33, Q_HC44, Q_X7_, Q_X18_⟩ := hI_
      have e27 : a.tmps[27]? = some (.bool true) := by rw [ha]; exact putSel_on (e := (1, 27, .bool true)) 1 rfl rfl (hon 1 (by kernel_rfl)) rfl
      have e36 : a.tmps[36]? = some (.bool true) := by rw [ha]; exact putSel_on (e := (10, 36, .bool true)) 10 rfl rfl (hon 10 (by kernel_rfl)) rfl
      replace ha := Aside0.mk ha
      have HBB := Aside0.mk Q_HBB
      have HC33 := Aside0.mk (Q_HC33 (hon 7 (by kernel_rfl)))
      refine value_ (w1 := w') (v := .bool true) (by rfl) rfl ?_ ?_
      · go_simp
        (try simp only [i64_w])
        try rfl
      refine hK.out _ _ ⟨B1, d1, B2, d2, m7_, m18_, (by rw [ha.out]; exact putSel_upk 11 hb_ rfl rfl rfl), Q_HBB, Q_HC33, fun h0_ => absurd ((hoff 18 (by kernel_rfl)).symm.trans h0_) (by decide), Q_X7_, fun h0_ => absurd ((hoff 18 (by kernel_rfl)).symm.trans h0_) (by decide)⟩
    refine steps_cons ?_ ?_
    · intro b a w' hI_ hb_ hon hoff
      refine ⟨_, rfl, fun K hK => ?_⟩
      obtain ⟨B1, d1, B2, d2, m7_, m18_, ha, Q_HBB, Q_HC33, Q_HC44, Q_X7_, Q_X18_⟩ := hI_
      have e37 : a.tmps[37]? = some (.bool true) := by rw [ha]; exact putSel_on (e := (11, 37, .bool true)) 11 rfl rfl (hon 11 (by kernel_rfl)) rfl
      replace ha := Aside0.mk ha
      have HBB := Aside0.mk Q_HBB
      have HC33 := Aside0.mk (Q_HC33 (hon 7 (by kernel_rfl)))
      refine value_ (w1 := w') (v := .bool true) (by rfl) rfl ?_ ?_
      · go_simp
        (try simp only [i64_w])
        try rfl
      refine hK.out _ _ ⟨B1, d1, B2, d2, m7_, m18_, (by rw [ha.out]; exact putSel_upk 12 hb_ rfl rfl rfl), Q_HBB, Q_HC33, fun h0_ => absurd ((hoff 18 (by kernel_rfl)).symm.trans h0_) (by decide), Q_X7_, fun h0_ => absurd ((hoff 18 (by kernel_rfl)).symm.trans h0_) (by decide)⟩
    refine steps_cons ?_ ?_
    · intro b a w' hI_ hb_ hon hoff
      refine ⟨_, rfl, fun K hK => ?_⟩
      obtain ⟨B1, d1, B2, d2, m7_, m18_, ha, Q_HBB, Q_HC33, Q_HC44, Q_X7_, Q_X18_⟩ := hI_
      have e10 : a.tmps[10]? = some (.slice A10 l10.length c10) := by rw [ha]; exact (putSel_off rfl).trans rfl
      have e38 : a.tmps[38]? = some (.bool true) := by rw [ha]; exact putSel_on (e := (12, 38, .bool true)) 12 rfl rfl (hon 12 (by kernel_rfl)) rfl
      replace ha := Aside0.mk ha
      have HBB := Aside0.mk Q_HBB
      have HC33 := Aside0.mk (Q_HC33 (hon 7 (by kernel_rfl)))
      refine value_ (w1 := w') (v := .slice A10 l10.length c10) (wanted_on rfl rfl rfl (e38.trans (by first | rfl | (simp [*]; done)))) rfl ?_ ?_
      · go_simp
        (try simp only [i64_w])
        try rfl
      refine hK.out _ _ ⟨B1, d1, B2, d2, m7_, m18_, (by rw [ha.out]; exact putSel_upk 13 hb_ rfl rfl rfl), Q_HBB, Q_HC33, Q_HC44, Q_X7_, Q_X18_⟩
    refine steps_cons ?_ ?_
    · intro b a w' hI_ hb_ hon hoff
      refine ⟨_, rfl, fun K hK => ?_⟩
      obtain ⟨B1, d1, B2, d2, m7_, m18_, ha, Q_HBB, Q_HC33, Q_HC44, Q_X7_, Q_X18_⟩ := hI_
      have e39 : a.tmps[39]? = some (.slice A10 l10.length c10) := by rw [ha]; exact putSel_on (e := (13, 39, .slice A10 l10.length c10)) 13 rfl rfl (hon 13 (by kernel_rfl)) rfl
      have e38 : a.tmps[38]? = some (.bool true) := by rw [ha]; exact putSel_on (e := (12, 38, .bool true)) 12 rfl rfl (hon 12 (by kernel_rfl)) rfl
      replace ha := Aside0.mk ha
      have HBB := Aside0.mk Q_HBB
      have HC33 := Aside0.mk (Q_HC33 (hon 7 (by kernel_rfl)))
      have hcv := Kd.C_string (P := Try.prog) (c := c10) Try.underlying23 Try.underlying5 Try.underlying9 (Kd.C_below HC10.out HBB.out)
      refine value_ (w1 := w') (v := .string (strOfNums l10)) (wanted_on rfl rfl rfl (e38.trans (by first | rfl | (simp [*]; done)))) rfl ?_ ?_
      · go_simp
        (try simp only [i64_w])
        try rfl
      refine hK.out _ _ ⟨B1, d1, B2, d2, m7_, m18_, (by rw [ha.out]; exact putSel_upk 14 hb_ rfl rfl rfl), Q_HBB, Q_HC33, Q_HC44, Q_X7_, Q_X18_⟩
    refine steps_cons ?_ ?_
    · intro b a w' hI_ hb_ hon hoff
      refine ⟨_, rfl, fun K hK => ?_⟩
      obtain ⟨B1, d1, B2, d2, m7_, m18_, ha, Q_HBB, Q_HC33, Q_HC44, Q_X7_, Q_X18_⟩ := hI_
      have e0 : a.tmps[0]? = some (.slice A0 lb.length cap) := by rw [ha]; exact (putSel_off rfl).trans rfl
      have e38 : a.tmps[38]? = some (.bool true) := by rw [ha]; exact putSel_on (e := (12, 38, .bool true)) 12 rfl rfl (hon 12 (by kernel_rfl)) rfl
      replace ha := Aside0.mk ha
      have HBB := Aside0.mk Q_HBB
      have HC33 := Aside0.mk (Q_HC33 (hon 7 (by kernel_rfl)))
      refine value_ (w1 := w') (v := .slice A0 lb.length cap) (wanted_on rfl rfl rfl (e38.trans (by first | rfl | (simp [*]; done)))) rfl ?_ ?_
      · go_simp
        (try simp only [i64_w])
        try rfl
      refine hK.out _ _ ⟨B1, d1, B2, d2, m7_, m18_, (by rw [ha.out]; exact putSel_upk 15 hb_ rfl rfl rfl), Q_HBB, Q_HC33, Q_HC44, Q_X7_, Q_X18_⟩
    refine steps_cons ?_ ?_
    · intro b a w' hI_ hb_ hon hoff
      refine ⟨_, rfl, fun K hK => ?_⟩
      obtain ⟨B1, d1, B2, d2, m7_, m18_, ha, Q_HBB, Q_HC33, Q_HC44, Q_X7_, Q_X18_⟩ := hI_
      have e41 : a.tmps[41]? = some (.slice A0 lb.length cap) := by rw [ha]; exact putSel_on (e := (15, 41, .slice A0 lb.length cap)) 15 rfl rfl (hon 15 (by kernel_rfl)) rfl
      have e38 : a.tmps[38]? = some (.bool true) := by rw [ha]; exact putSel_on (e := (12, 38, .bool true)) 12 rfl rfl (hon 12 (by kernel_rfl)) rfl
      replace ha := Aside0.mk ha
      have HBB := Aside0.mk Q_HBB
      have HC33 := Aside0.mk (Q_HC33 (hon 7 (by kernel_rfl)))
      have hcv := Kd.C_string (P := Try.prog) (c := cap) Try.underlying23 Try.underlying5 Try.underlying9 (Kd.C_below HLB.out HBB.out)
      refine value_ (w1 := w') (v := .string (strOfNums lb)) (wanted_on rfl rfl rfl (e38.trans (by first | rfl | (simp [*]; done)))) rfl ?_ ?_
      · go_simp
        (try simp only [i64_w])
        try rfl
      refine hK.out _ _ ⟨B1, d1, B2, d2, m7_, m18_, (by rw [ha.out]; exact putSel_upk 16 hb_ rfl rfl rfl), Q_HBB, Q_HC33, Q_HC44, Q_X7_, Q_X18_⟩
    refine steps_cons ?_ ?_
    · intro b a w' hI_ hb_ hon hoff
      refine ⟨_, rfl, fun K hK => ?_⟩
      obtain ⟨B1, d1, B2, d2, m7_, m18_, ha, Q_HBB, Q_HC33, Q_HC44, Q_X7_, Q_X18_⟩ := hI_
      have e2 : a.tmps[2]? = some (.int .i64 y) := by rw [ha]; exact (putSel_off rfl).trans rfl
      have e38 : a.tmps[38]? = some (.bool true) := by rw [ha]; exact putSel_on (e := (12, 38, .bool true)) 12 rfl rfl (hon 12 (by kernel_rfl)) rfl
      replace ha := Aside0.mk ha
      have HBB := Aside0.mk Q_HBB
      have HC33 := Aside0.mk (Q_HC33 (hon 7 (by kernel_rfl)))
      refine value_ (w1 := w') (v := .int .i64 y) (wanted_on rfl rfl rfl (e38.trans (by first | rfl | (simp [*]; done)))) rfl ?_ ?_
      · go_simp
        (try simp only [i64_w])
        try rfl
      refine hK.out _ _ ⟨B1, d1, B2, d2, m7_, m18_, (by rw [ha.out]; exact putSel_upk 17 hb_ rfl rfl rfl), Q_HBB, Q_HC33, fun h0_ => absurd ((hoff 18 (by kernel_rfl)).symm.trans h0_) (by decide), Q_X7_, fun h0_ => absurd ((hoff 18 (by kernel_rfl)).symm.trans h0_) (by decide)⟩
    refine steps_cons ?_ ?_
    · intro b a w' hI_ hb_ hon hoff
      refine ⟨_, rfl, fun K hK => ?_⟩
      obtain ⟨B1, d1, B2, d2, m7_, m18_, ha, Q_HBB, Q_HC33, Q_HC44, Q_X7_, Q_X18_⟩ := hI_
      have e43 : a.tmps[43]? = some (.int .i64 y) := by rw [ha]; exact putSel_on (e := (17, 43, .int .i64 y)) 17 rfl rfl (hon 17 (by kernel_rfl)) rfl
      have e38 : a.tmps[38]? = some (.bool true) := by rw [ha]; exact putSel_on (e := (12, 38, .bool true)) 12 rfl rfl (hon 12 (by kernel_rfl)) rfl
      replace ha := Aside0.mk ha
      have HBB := Aside0.mk Q_HBB
      have HC33 := Aside0.mk (Q_HC33 (hon 7 (by kernel_rfl)))
      refine goes_ Try.func12 (by kernel_rfl) rfl #[.slice none 0 0, .int .i64 y] (wanted_on rfl rfl rfl (e38.trans (by first | rfl | (simp [*]; done)))) rfl rfl (by first | (simp only [List.map_toArray, List.map_cons, List.map_nil, Act.eval, Array.getD_eq_getD_getElem?, Option.getD_some, e43, e38]; done) | (simp only [List.map_toArray, List.map_cons, List.map_nil, Act.eval, Array.getD_eq_getD_getElem?, Option.getD_some, e43, e38]; rfl)) ?_
      with_reducible refine (putNil_calls ey y _ (by omega) (by omega) HEY.out).mono ?_
      rintro e w3 ⟨B2, d2, rfl, hc_, hC_, hb_2⟩
      refine ⟨_, rfl, ?_⟩
      refine hK.out _ _ ⟨B1, d1, B2, d2, m7_, (.slice B2 ey.length d2), (by rw [ha.out]; exact putSel_upk 18 hb_ rfl rfl rfl), below_step HBB.out hb_2, fun _ => Kd.C_below HC33.out hb_2, fun _ => hC_, Q_X7_, fun _ => rfl⟩
    refine steps_cons ?_ ?_
    · intro b a w' hI_ hb_ hon hoff
      refine ⟨_, rfl, fun K hK => ?_⟩
      obtain ⟨B1, d1, B2, d2, m7_, m18_, ha, Q_HBB, Q_HC33, Q_HC44, Q_X7_, Q_X18_⟩ := hI_
      have e44 : a.tmps[44]? = some (m18_) := by rw [ha]; exact putSel_on (e := (18, 44, m18_)) 18 rfl rfl (hon 18 (by kernel_rfl)) rfl
      rw [Q_X18_ (hon 18 (by kernel_rfl))] at e44
      have e38 : a.tmps[38]? = some (.bool true) := by rw [ha]; exact putSel_on (e := (12, 38, .bool true)) 12 rfl rfl (hon 12 (by kernel_rfl)) rfl
      replace ha := Aside0.mk ha
      have HBB := Aside0.mk Q_HBB
      have HC33 := Aside0.mk (Q_HC33 (hon 7 (by kernel_rfl)))
      have HC44 := Aside0.mk (Q_HC44 (hon 18 (by kernel_rfl)))
      have hcv := Kd.C_string (P := Try.prog) (c := d2) Try.underlying23 Try.underlying5 Try.underlying9 HC44.out
      refine value_ (w1 := w') (v := .string (strOfNums ey)) (wanted_on rfl rfl rfl (e38.trans (by first | rfl | (simp [*]; done)))) rfl ?_ ?_
      · go_simp
        (try simp only [i64_w])
        try rfl
      refine hK.out _ _ ⟨B1, d1, B2, d2, m7_, m18_, (by rw [ha.out]; exact putSel_upk 19 hb_ rfl rfl rfl), Q_HBB, Q_HC33, Q_HC44, Q_X7_, Q_X18_⟩
    refine steps_cons ?_ ?_
    · intro b a w' hI_ hb_ hon hoff
      refine ⟨_, rfl, fun K hK => ?_⟩
      obtain ⟨B1, d1, B2, d2, m7_, m18_, ha, Q_HBB, Q_HC33, Q_HC44, Q_X7_, Q_X18_⟩ := hI_
      have e42 : a.tmps[42]? = some (.string (strOfNums lb)) := by rw [ha]; exact putSel_on (e := (16, 42, .string (strOfNums lb))) 16 rfl rfl (hon 16 (by kernel_rfl)) rfl
      have e45 : a.tmps[45]? = some (.string (strOfNums ey)) := by rw [ha]; exact putSel_on (e := (19, 45, .string (strOfNums ey))) 19 rfl rfl (hon 19 (by kernel_rfl)) rfl
      have e38 : a.tmps[38]? = some (.bool true) := by rw [ha]; exact putSel_on (e := (12, 38, .bool true)) 12 rfl rfl (hon 12 (by kernel_rfl)) rfl
      replace ha := Aside0.mk ha
      have HBB := Aside0.mk Q_HBB
      have HC33 := Aside0.mk (Q_HC33 (hon 7 (by kernel_rfl)))
      have HC44 := Aside0.mk (Q_HC44 (hon 18 (by kernel_rfl)))
      refine value_ (w1 := w') (v := .string (strOfNums lb ++ strOfNums ey)) (wanted_on rfl rfl rfl (e38.trans (by first | rfl | (simp [*]; done)))) rfl ?_ ?_
      · go_simp
        (try simp only [i64_w])
        try rfl
      refine hK.out _ _ ⟨B1, d1, B2, d2, m7_, m18_, (by rw [ha.out]; exact putSel_upk 20 hb_ rfl rfl rfl), Q_HBB, Q_HC33, Q_HC44, Q_X7_, Q_X18_⟩
    refine steps_cons ?_ ?_
    · intro b a w' hI_ hb_ hon hoff
      refine ⟨_, rfl, fun K hK => ?_⟩
      obtain ⟨B1, d1, B2, d2, m7_, m18_, ha, Q_HBB, Q_HC33, Q_HC44, Q_X7_, Q_X18_⟩ := hI_
      have e40 : a.tmps[40]? = some (.string (strOfNums l10)) := by rw [ha]; exact putSel_on (e := (14, 40, .string (strOfNums l10))) 14 rfl rfl (hon 14 (by kernel_rfl)) rfl
      have e46 : a.tmps[46]? = some (.string (strOfNums lb ++ strOfNums ey)) := by rw [ha]; exact putSel_on (e := (20, 46, .string (strOfNums lb ++ strOfNums ey))) 20 rfl rfl (hon 20 (by kernel_rfl)) rfl
      have e38 : a.tmps[38]? = some (.bool true) := by rw [ha]; exact putSel_on (e := (12, 38, .bool true)) 12 rfl rfl (hon 12 (by kernel_rfl)) rfl
      replace ha := Aside0.mk ha
      have HBB := Aside0.mk Q_HBB
      have HC33 := Aside0.mk (Q_HC33 (hon 7 (by kernel_rfl)))
      have HC44 := Aside0.mk (Q_HC44 (hon 18 (by kernel_rfl)))
      refine value_ (w1 := w') (v := .bool true) (wanted_on rfl rfl rfl (e38.trans (by first | rfl | (simp [*]; done)))) rfl ?_ ?_
      · go_simp
        (try simp only [i64_w])
        try rfl
      refine hK.out _ _ ⟨B1, d1, B2, d2, m7_, m18_, (by rw [ha.out]; exact putSel_upk 21 hb_ rfl rfl rfl), Q_HBB, Q_HC33, Q_HC44, Q_X7_, Q_X18_⟩
    refine steps_cons ?_ ?_
    · intro b a w' hI_ hb_ hon hoff
      refine ⟨_, rfl, fun K hK => ?_⟩
      obtain ⟨B1, d1, B2, d2, m7_, m18_, ha, Q_HBB, Q_HC33, Q_HC44, Q_X7_, Q_X18_⟩ := hI_
      have e38 : a.tmps[38]? = some (.bool true) := by rw [ha]; exact putSel_on (e := (12, 38, .bool true)) 12 rfl rfl (hon 12 (by kernel_rfl)) rfl
      have e47 : a.tmps[47]? = some (.bool true) := by rw [ha]; exact putSel_on (e := (21, 47, .bool true)) 21 rfl rfl (hon 21 (by kernel_rfl)) rfl
      replace ha := Aside0.mk ha
      have HBB := Aside0.mk Q_HBB
      have HC33 := Aside0.mk (Q_HC33 (hon 7 (by kernel_rfl)))
      have HC44 := Aside0.mk (Q_HC44 (hon 18 (by kernel_rfl)))
      refine value_ (w1 := w') (v := .bool true) (by rfl) rfl ?_ ?_
      · go_simp
        (try simp only [i64_w])
        try rfl
      refine hK.out _ _ ⟨B1, d1, B2, d2, m7_, m18_, (by rw [ha.out]; exact putSel_upk 22 hb_ rfl rfl rfl), Q_HBB, Q_HC33, Q_HC44, Q_X7_, Q_X18_⟩
    refine steps_cons ?_ ?_
    · intro b a w' hI_ hb_ hon hoff
      refine ⟨_, rfl, fun K hK => ?_⟩
      obtain ⟨B1, d1, B2, d2, m7_, m18_, ha, Q_HBB, Q_HC33, Q_HC44, Q_X7_, Q_X18_⟩ := hI_
      have e48 : a.tmps[48]? = some (.bool true) := by rw [ha]; exact putSel_on (e := (22, 48, .bool true)) 22 rfl rfl (hon 22 (by kernel_rfl)) rfl
      replace ha := Aside0.mk ha
      have HBB := Aside0.mk Q_HBB
      have HC33 := Aside0.mk (Q_HC33 (hon 7 (by kernel_rfl)))
      have HC44 := Aside0.mk (Q_HC44 (hon 18 (by kernel_rfl)))
      refine value_ (w1 := w') (v := .bool true) (by rfl) rfl ?_ ?_
      · go_simp
        (try simp only [i64_w])
        try rfl
      refine hK.out _ _ ⟨B1, d1, B2, d2, m7_, m18_, (by rw [ha.out]; exact putSel_upk 23 hb_ rfl rfl rfl), Q_HBB, Q_HC33, Q_HC44, Q_X7_, Q_X18_⟩
    refine steps_cons ?_ ?_
    · intro b a w' hI_ hb_ hon hoff
      refine ⟨_, rfl, fun K hK => ?_⟩
      obtain ⟨B1, d1, B2, d2, m7_, m18_, ha, Q_HBB, Q_HC33, Q_HC44, Q_X7_, Q_X18_⟩ := hI_
      have e8 : a.tmps[8]? = some (.slice A8 lb.length c8) := by rw [ha]; exact (putSel_off rfl).trans rfl
      have e49 : a.tmps[49]? = some (.bool true) := by rw [ha]; exact putSel_on (e := (23, 49, .bool true)) 23 rfl rfl (hon 23 (by kernel_rfl)) rfl
      replace ha := Aside0.mk ha
      have HBB := Aside0.mk Q_HBB
      have HC33 := Aside0.mk (Q_HC33 (hon 7 (by kernel_rfl)))
      have HC44 := Aside0.mk (Q_HC44 (hon 18 (by kernel_rfl)))
      refine value_ (w1 := w') (v := .slice A8 lb.length c8) (wanted_on rfl rfl rfl (e49.trans (by first | rfl | (simp [*]; done)))) rfl ?_ ?_
      · go_simp
        (try simp only [i64_w])
        try rfl
      refine hK.out _ _ ⟨B1, d1, B2, d2, m7_, m18_, (by rw [ha.out]; exact putSel_upk 24 hb_ rfl rfl rfl), Q_HBB, Q_HC33, Q_HC44, Q_X7_, Q_X18_⟩
    refine steps_cons ?_ ?_
    · intro b a w' hI_ hb_ hon hoff
      refine ⟨_, rfl, fun K hK => ?_⟩
      obtain ⟨B1, d1, B2, d2, m7_, m18_, ha, Q_HBB, Q_HC33, Q_HC44, Q_X7_, Q_X18_⟩ := hI_
      have e50 : a.tmps[50]? = some (.slice A8 lb.length c8) := by rw [ha]; exact putSel_on (e := (24, 50, .slice A8 lb.length c8)) 24 rfl rfl (hon 24 (by kernel_rfl)) rfl
      have e49 : a.tmps[49]? = some (.bool true) := by rw [ha]; exact putSel_on (e := (23, 49, .bool true)) 23 rfl rfl (hon 23 (by kernel_rfl)) rfl
      replace ha := Aside0.mk ha
      have HBB := Aside0.mk Q_HBB
      have HC33 := Aside0.mk (Q_HC33 (hon 7 (by kernel_rfl)))
      have HC44 := Aside0.mk (Q_HC44 (hon 18 (by kernel_rfl)))
      have hcv := Kd.C_string (P := Try.prog) (c := c8) Try.underlying23 Try.underlying5 Try.underlying9 (Kd.C_below HC8.out HBB.out)
      refine value_ (w1 := w') (v := .string (strOfNums lb)) (wanted_on rfl rfl rfl (e49.trans (by first | rfl | (simp [*]; done)))) rfl ?_ ?_
      · go_simp
        (try simp only [i64_w])
        try rfl
      refine hK.out _ _ ⟨B1, d1, B2, d2, m7_, m18_, (by rw [ha.out]; exact putSel_upk 25 hb_ rfl rfl rfl), Q_HBB, Q_HC33, Q_HC44, Q_X7_, Q_X18_⟩
    refine steps_cons ?_ ?_
    · intro b a w' hI_ hb_ hon hoff
      refine ⟨_, rfl, fun K hK => ?_⟩
      obtain ⟨B1, d1, B2, d2, m7_, m18_, ha, Q_HBB, Q_HC33, Q_HC44, Q_X7_, Q_X18_⟩ := hI_
      have e0 : a.tmps[0]? = some (.slice A0 lb.length cap) := by rw [ha]; exact (putSel_off rfl).trans rfl
      have e49 : a.tmps[49]? = some (.bool true) := by rw [ha]; exact putSel_on (e := (23, 49, .bool true)) 23 rfl rfl (hon 23 (by kernel_rfl)) rfl
      replace ha := Aside0.mk ha
      have HBB := Aside0.mk Q_HBB
      have HC33 := Aside0.mk (Q_HC33 (hon 7 (by kernel_rfl)))
      have HC44 := Aside0.mk (Q_HC44 (hon 18 (by kernel_rfl)))
      refine value_ (w1 := w') (v := .slice A0 lb.length cap) (wanted_on rfl rfl rfl (e49.trans (by first | rfl | (simp [*]; done)))) rfl ?_ ?_
      · go_simp
        (try simp only [i64_w])
        try rfl
      refine hK.out _ _ ⟨B1, d1, B2, d2, m7_, m18_, (by rw [ha.out]; exact putSel_upk 26 hb_ rfl rfl rfl), Q_HBB, Q_HC33, Q_HC44, Q_X7_, Q_X18_⟩
    refine steps_cons ?_ ?_
    · intro b a w' hI_ hb_ hon hoff
      refine ⟨_, rfl, fun K hK => ?_⟩
      obtain ⟨B1, d1, B2, d2, m7_, m18_, ha, Q_HBB, Q_HC33, Q_HC44, Q_X7_, Q_X18_⟩ := hI_
      have e52 : a.tmps[52]? = some (.slice A0 lb.length cap) := by rw [ha]; exact putSel_on (e := (26, 52, .slice A0 lb.length cap)) 26 rfl rfl (hon 26 (by kernel_rfl)) rfl
      have e49 : a.tmps[49]? = some (.bool true) := by rw [ha]; exact putSel_on (e := (23, 49, .bool true)) 23 rfl rfl (hon 23 (by kernel_rfl)) rfl
      replace ha := Aside0.mk ha
      have HBB := Aside0.mk Q_HBB
      have HC33 := Aside0.mk (Q_HC33 (hon 7 (by kernel_rfl)))
      have HC44 := Aside0.mk (Q_HC44 (hon 18 (by kernel_rfl)))
      have hcv := Kd.C_string (P := Try.prog) (c := cap) Try.underlying23 Try.underlying5 Try.underlying9 (Kd.C_below HLB.out HBB.out)
      refine value_ (w1 := w') (v := .string (strOfNums lb)) (wanted_on rfl rfl rfl (e49.trans (by first | rfl | (simp [*]; done)))) rfl ?_ ?_
      · go_simp
        (try simp only [i64_w])
        try rfl
      refine hK.out _ _ ⟨B1, d1, B2, d2, m7_, m18_, (by rw [ha.out]; exact putSel_upk 27 hb_ rfl rfl rfl), Q_HBB, Q_HC33, Q_HC44, Q_X7_, Q_X18_⟩
    refine steps_cons ?_ ?_
    · intro b a w' hI_ hb_ hon hoff
      refine ⟨_, rfl, fun K hK => ?_⟩
      obtain ⟨B1, d1, B2, d2, m7_, m18_, ha, Q_HBB, Q_HC33, Q_HC44, Q_X7_, Q_X18_⟩ := hI_
      have e51 : a.tmps[51]? = some (.string (strOfNums lb)) := by rw [ha]; exact putSel_on (e := (25, 51, .string (strOfNums lb))) 25 rfl rfl (hon 25 (by kernel_rfl)) rfl
      have e53 : a.tmps[53]? = some (.string (strOfNums lb)) := by rw [ha]; exact putSel_on (e := (27, 53, .string (strOfNums lb))) 27 rfl rfl (hon 27 (by kernel_rfl)) rfl
      have e49 : a.tmps[49]? = some (.bool true) := by rw [ha]; exact putSel_on (e := (23, 49, .bool true)) 23 rfl rfl (hon 23 (by kernel_rfl)) rfl
      replace ha := Aside0.mk ha
      have HBB := Aside0.mk Q_HBB
      have HC33 := Aside0.mk (Q_HC33 (hon 7 (by kernel_rfl)))
      have HC44 := Aside0.mk (Q_HC44 (hon 18 (by kernel_rfl)))
      refine value_ (w1 := w') (v := .bool true) (wanted_on rfl rfl rfl (e49.trans (by first | rfl | (simp [*]; done)))) rfl ?_ ?_
      · go_simp
        (try simp only [i64_w])
        try rfl
      refine hK.out _ _ ⟨B1, d1, B2, d2, m7_, m18_, (by rw [ha.out]; exact putSel_upk 28 hb_ rfl rfl rfl), Q_HBB, Q_HC33, Q_HC44, Q_X7_, Q_X18_⟩
    refine steps_cons ?_ ?_
    · intro b a w' hI_ hb_ hon hoff
      refine ⟨_, rfl, fun K hK => ?_⟩
      obtain ⟨B1, d1, B2, d2, m7_, m18_, ha, Q_HBB, Q_HC33, Q_HC44, Q_X7_, Q_X18_⟩ := hI_
      have e49 : a.tmps[49]? = some (.bool true) := by rw [ha]; exact putSel_on (e := (23, 49, .bool true)) 23 rfl rfl (hon 23 (by kernel_rfl)) rfl
      have e54 : a.tmps[54]? = some (.bool true) := by rw [ha]; exact putSel_on (e := (28, 54, .bool true)) 28 rfl rfl (hon 28 (by kernel_rfl)) rfl
      replace ha := Aside0.mk ha
      have HBB := Aside0.mk Q_HBB
      have HC33 := Aside0.mk (Q_HC33 (hon 7 (by kernel_rfl)))
      have HC44 := Aside0.mk (Q_HC44 (hon 18 (by kernel_rfl)))
      refine value_ (w1 := w') (v := .bool true) (by rfl) rfl ?_ ?_
      · go_simp
        (try simp only [i64_w])
        try rfl
      refine hK.out _ _ ⟨B1, d1, B2, d2, m7_, m18_, (by rw [ha.out]; exact putSel_upk 29 hb_ rfl rfl rfl), Q_HBB, Q_HC33, Q_HC44, Q_X7_, Q_X18_⟩
    refine steps_cons ?_ ?_
    · intro b a w' hI_ hb_ hon hoff
      refine ⟨_, rfl, fun K hK => ?_⟩
      obtain ⟨B1, d1, B2, d2, m7_, m18_, ha, Q_HBB, Q_HC33, Q_HC44, Q_X7_, Q_X18_⟩ := hI_
      have e55 : a.tmps[55]? = some (.bool true) := by rw [ha]; exact putSel_on (e := (29, 55, .bool true)) 29 rfl rfl (hon 29 (by kernel_rfl)) rfl
      replace ha := Aside0.mk ha
      have HBB := Aside0.mk Q_HBB
      have HC33 := Aside0.mk (Q_HC33 (hon 7 (by kernel_rfl)))
      have HC44 := Aside0.mk (Q_HC44 (hon 18 (by kernel_rfl)))
      refine value_ (w1 := w') (v := .bool true) (by rfl) rfl ?_ ?_
      · go_simp
        (try simp only [i64_w])
        try rfl
      refine hK.out _ _ ⟨B1, d1, B2, d2, m7_, m18_, (by rw [ha.out]; exact putSel_upk 30 hb_ rfl rfl rfl), Q_HBB, Q_HC33, Q_HC44, Q_X7_, Q_X18_⟩
    exact steps_nil
  rintro b a wz hall ⟨B1, d1, B2, d2, m7_, m18_, ha, Q_HBB, Q_HC33, Q_HC44, Q_X7_, Q_X18_⟩
  clear HBB
  have hb0_ := hall 0 (by kernel_rfl)
  have hb1_ := hall 1 (by kernel_rfl)
  have hb2_ := hall 2 (by kernel_rfl)
  have hb3_ := hall 3 (by kernel_rfl)
  have hb4_ := hall 4 (by kernel_rfl)
  have hb5_ := hall 5 (by kernel_rfl)
  have hb6_ := hall 6 (by kernel_rfl)
  have hb7_ := hall 7 (by kernel_rfl)
  have hb8_ := hall 8 (by kernel_rfl)
  have hb9_ := hall 9 (by kernel_rfl)
  have hb10_ := hall 10 (by kernel_rfl)
  have hb11_ := hall 11 (by kernel_rfl)
  have hb12_ := hall 12 (by kernel_rfl)
  have hb13_ := hall 13 (by kernel_rfl)
  have hb14_ := hall 14 (by kernel_rfl)
  have hb15_ := hall 15 (by kernel_rfl)
  have hb16_ := hall 16 (by kernel_rfl)
  have hb17_ := hall 17 (by kernel_rfl)
  have hb18_ := hall 18 (by kernel_rfl)
  have hb19_ := hall 19 (by kernel_rfl)
  have hb20_ := hall 20 (by kernel_rfl)
  have hb21_ := hall 21 (by kernel_rfl)
  have hb22_ := hall 22 (by kernel_rfl)
  have hb23_ := hall 23 (by kernel_rfl)
  have hb24_ := hall 24 (by kernel_rfl)
  have hb25_ := hall 25 (by kernel_rfl)
  have hb26_ := hall 26 (by kernel_rfl)
  have hb27_ := hall 27 (by kernel_rfl)
  have hb28_ := hall 28 (by kernel_rfl)
  have hb29_ := hall 29 (by kernel_rfl)
  have hb30_ := hall 30 (by kernel_rfl)
  subst ha
  obtain rfl := Q_X7_ hb7_
  obtain rfl := Q_X18_ hb18_
  simp only [putSel, hb0_, hb1_, hb2_, hb3_, hb4_, hb5_, hb6_, hb7_, hb8_, hb9_, hb10_, hb11_, hb12_, hb13_, hb14_, hb15_, hb16_, hb17_, hb18_, hb19_, hb20_, hb21_, hb22_, hb23_, hb24_, hb25_, hb26_, hb27_, hb28_, hb29_, hb30_, if_true, Act.put, List.setIfInBounds_toArray, List.set_cons_zero, List.set_cons_succ]
  have HBB := Aside0.mk Q_HBB
  clear Q_HBB
  have HC33 := Aside0.mk (Q_HC33 hb7_)
  clear Q_HC33
  have HC44 := Aside0.mk (Q_HC44 hb18_)
  clear Q_HC44
  clear hall hb0_ hb1_ hb2_ hb3_ hb4_ hb5_ hb6_ hb7_ hb8_ hb9_ hb10_ hb11_ hb12_ hb13_ hb14_ hb15_ hb16_ hb17_ hb18_ hb19_ hb20_ hb21_ hb22_ hb23_ hb24_ hb25_ hb26_ hb27_ hb28_ hb29_ hb30_
  go_wp2
  go_ret
  exact ⟨rfl, below_step HB.out HBB.out⟩
end Go.Proofs.Ytnkaighdajickaa.Num

/- The statement NameTagged: the walk of the law. -/
import Derived.Test.YtkbnckpcllfikaaM12
namespace Go.Proofs.Ytkbnckpcllfikaa.Nam
open Go.RowKit Go.Proofs.YtkbnckpcllfikaaW.PrintWords Go.Proofs.YtkbnckpcllfikaaW.PrintLast Go.Proofs.YtkbnckpcllfikaaW.PrintMore Go.Proofs.Ytkbnckpcllfikaa.Num Go.Proofs.Ytkbnckpcllfikaa.Prt
set_option linter.unusedVariables false
set_option linter.unusedSimpArgs false
open Go.Proofs.YtkbnckpcllfikaaW.PrintLast
theorem shortT (t s : ByteArray) (w : World) (hs : s.size ≤ 9223372036854775807) (h : t = sh s) : Calls Try.prog 12 #[.string s] w fun e w' => e = .returned (.string t) ∧ w = w' := by
  subst h; exact short_calls s w hs
theorem tagOf (a b : ByteArray) (ha : a.size ≤ 100000) (hb : b.size ≤ 100000) : ∃ t : ByteArray, t.size ≤ 1000000 ∧ (∀ w : World, Calls Try.prog 17 #[.string a, .string b] w fun e w' => e = .returned (.string t) ∧ Below w.heap.size w w') ∧ ((t = ⟨#[]⟩ ∧ (mayL (bytesOf a) = false ∨ mayL (bytesOf b) = false)) ∨ (t = a ++ (⟨#[58]⟩ : ByteArray) ++ b ∧ mayL (bytesOf a) = true ∧ mayL (bytesOf b) = true)) := by
  by_cases h : mayL (bytesOf a) = true ∧ mayL (bytesOf b) = true
  · refine ⟨_, ?_, fun w => tagYes a b w ha hb h.1 h.2, .inr ⟨rfl, h.1, h.2⟩⟩
    rw [ByteArray.size_append, ByteArray.size_append]
    show a.size + 1 + b.size ≤ _
    omega
  · have h2 : mayL (bytesOf a) = false ∨ mayL (bytesOf b) = false := by
      cases h1 : mayL (bytesOf a) with
      | false => exact .inl rfl
      | true =>
        cases h2 : mayL (bytesOf b) with
        | false => exact .inr rfl
        | true => exact absurd ⟨h1, h2⟩ h
    exact ⟨_, by decide, fun w => tagNo a b w ha hb h2, .inl ⟨rfl, h2⟩⟩
def D10.T5 : Bool × List (List Nat × List Nat) := (true, [([], []), ([0], [0]), ([1], [1]), ([], []), ([3], [3]), ([4, 2], [4]), ([2, 5, 5], [2, 5]), ([6, 6, 0, 1, 2, 3, 4, 5, 6], [6])])
def D10.B5 : List Nat := [0, 1, 3, 0, 8, 31, 63, 127]
theorem D10.tab5 : rtab .any (opsOf Try.f10 5) = D10.T5 := by kernel_rfl
theorem D10.bits5 : waitsOk D10.T5.2 D10.B5 = true := by kernel_rfl
theorem tagged_law (s1 s2 x0 x1 : ByteArray) (w : World) (ws1 : s1.size ≤ 140737488351232) (ws2 : s2.size ≤ 140737488351232) (wx0 : x0.size ≤ maxLen) (wx1 : x1.size ≤ maxLen) :
    Calls Try.prog 10 #[.string s1, .string s2, .agg #[.string x0, .string x1]] w fun e w' => e = .returned (.bool true) ∧ Below w.heap.size w w' := by
  obtain ⟨p, ha⟩ : ∃ t, t = sh s1 := ⟨_, rfl⟩
  have hz_a : p.size ≤ 60 := by rw [ha]; exact sh_size s1
  have HSA := Aside0.mk ha
  obtain ⟨q, hb⟩ : ∃ t, t = sh s2 := ⟨_, rfl⟩
  have hz_b : q.size ≤ 60 := by rw [hb]; exact sh_size s2
  have HSB := Aside0.mk hb
  obtain ⟨c, hc⟩ : ∃ t, t = sh x0 := ⟨_, rfl⟩
  have hz_c : c.size ≤ 60 := by rw [hc]; exact sh_size x0
  have HSC := Aside0.mk hc
  obtain ⟨d, hd⟩ : ∃ t, t = sh x1 := ⟨_, rfl⟩
  have hz_d : d.size ≤ 60 := by rw [hd]; exact sh_size x1
  have HSD := Aside0.mk hd
  have wz0 : x0.size ≤ 9223372036854775807 := by unfold maxLen at wx0; omega
  have wz1 : x1.size ≤ 9223372036854775807 := by unfold maxLen at wx1; omega
  clear ha hb hc hd wx0 wx1
  obtain ⟨t, htz, ht1, ht2⟩ := tagOf p q (by omega) (by omega)
  obtain ⟨u, huz, hu1, hu2⟩ := tagOf c d (by omega) (by omega)
  have HT2 := Aside0.mk ht2
  have HU2 := Aside0.mk hu2
  clear ht2 hu2
  have hu := Try.underlying33
  go_enter Try.func10, Try.ntmps10
  go_wp2_with (first | ((with_reducible refine gate_dst (N := 5) rfl ?_); refine box_event ?hg (N := 5) ?hd (cs := #[.string x0, .string x1]) (t := 33) ?hr ?_; (case hd => rfl); (case hg => rfl); (case hr => first | (go_simp; done) | (go_simp; rfl)); intro g hg w1 hbox hb; have HBX := Aside0.mk hbox; have n_ := Aside0.mk (below_step (Below.refl w.heap.size w) hb); have HG := Aside0.mk hg; clear hbox hb hg; have HB := n_; clear n_))
  refine (shown_calls _).mono ?_

  rintro e w_ ⟨rfl, hb⟩
  have n1_ := Aside0.mk (blk_below HBX.out hb)
  have n_ := Aside0.mk (below_step (by repeat (first | (with_reducible first | exact HB.out | apply below_alloc | apply pw_below_drewN | apply below_drew1) | exact HB.out)) hb); clear HB HBX hb; have HB := n_; have HBX := n1_; clear n_ n1_
  go_wp2_with fail
  refine (shortT p s1 _ (by omega) HSA.out).mono ?_
  rintro e w_ ⟨rfl, rfl⟩
  go_wp2_with fail
  refine (shortT q s2 _ (by omega) HSB.out).mono ?_
  rintro e w_ ⟨rfl, rfl⟩
  go_wp2_with fail
  refine (ht1 _).mono ?_

  rintro e w_ ⟨rfl, hb⟩
  have n1_ := Aside0.mk (blk_below HBX.out hb)
  have n_ := Aside0.mk (below_step (by repeat (first | (with_reducible first | exact HB.out | apply below_alloc | apply pw_below_drewN | apply below_drew1) | exact HB.out)) hb); clear HB HBX hb; have HB := n_; have HBX := n1_; clear n_ n1_
  have HBB := Aside0.mk (below_drew HB.out)
  have HBK := HBX
  go_wp2_with fail
  refine start_ (n := 8) (S := fun w' => True) (ds := []) #[false, false, false, false, false, false, false, false] (by kernel_rfl) rfl rfl trivial (fun hHeld => ?_); refine with_tabW D10.tab5 D10.bits5 (fun HT_ HW_ => ?_)
  refine inv_at [0, 1, 2, 3, 4, 5, 6, 7] (fun a0_ b a w' => a = putSel a0_ b [(0, 19, .pointer (some ⟨g, 0, none⟩)), (1, 20, .string x0), (2, 21, .string c), (3, 22, .pointer (some ⟨g, 1, none⟩)), (4, 23, .string x1), (5, 24, .string d), (6, 25, .string u), (7, 9, .string u)] ∧ (Below w.heap.size w w') ∧ (w'.heap[g]? = some (.cells #[.string x0, .string x1] 33 (0, 0)))) HT_.out HW_.out (by kernel_rfl) (by kernel_rfl) ?_ ?_ ?_
  · exact ⟨by simp only [putSel, Bool.false_eq_true, if_false], HBB.out, HBK.out⟩
  · clear HT_ HW_ hHeld
    clear HBB HBK
    refine steps_cons ?_ ?_
    · intro b a w' hI_ hb_ hon hoff
      refine ⟨_, rfl, fun K hK => ?_⟩
      obtain ⟨ha, Q_HBB, Q_HBK⟩ := hI_
      have e5 : a.tmps[5]? = some (.pointer (some ⟨g, 0, none⟩)) := by rw [ha]; exact (putSel_off rfl).trans rfl
      replace ha := Aside0.mk ha
      have HBB := Aside0.mk Q_HBB
      have HBK := Aside0.mk Q_HBK
      refine value_ (w1 := w') (v := .pointer (some ⟨g, 0, none⟩)) (by rfl) rfl ?_ ?_
      · go_simp
        (try simp only [i64_w])
        try (first | rfl | assumption)
      refine hK.out _ _ ⟨(by rw [ha.out]; exact putSel_upk 0 hb_ rfl rfl rfl), Q_HBB, Q_HBK⟩
    refine steps_cons ?_ ?_
    · intro b a w' hI_ hb_ hon hoff
      refine ⟨_, rfl, fun K hK => ?_⟩
      obtain ⟨ha, Q_HBB, Q_HBK⟩ := hI_
      have e19 : a.tmps[19]? = some (.pointer (some ⟨g, 0, none⟩)) := by rw [ha]; exact putSel_on (e := (0, 19, .pointer (some ⟨g, 0, none⟩))) 0 rfl rfl (hon 0 (by kernel_rfl)) rfl
      replace ha := Aside0.mk ha
      have HBB := Aside0.mk Q_HBB
      have HBK := Aside0.mk Q_HBK
      have hcell := blk_cell HBK.out 0
      have hcell1 := blk_cell HBK.out 1
      refine value_ (w1 := w') (v := .string x0) (by rfl) rfl ?_ ?_
      · go_simp
        (try simp only [i64_w])
        try (first | rfl | assumption)
      refine hK.out _ _ ⟨(by rw [ha.out]; exact putSel_upk 1 hb_ rfl rfl rfl), Q_HBB, Q_HBK⟩
    refine steps_cons ?_ ?_
    · intro b a w' hI_ hb_ hon hoff
      refine ⟨_, rfl, fun K hK => ?_⟩
      obtain ⟨ha, Q_HBB, Q_HBK⟩ := hI_
      have e20 : a.tmps[20]? = some (.string x0) := by rw [ha]; exact putSel_on (e := (1, 20, .string x0)) 1 rfl rfl (hon 1 (by kernel_rfl)) rfl
      replace ha := Aside0.mk ha
      have HBB := Aside0.mk Q_HBB
      have HBK := Aside0.mk Q_HBK
      refine goes_ Try.func12 (by kernel_rfl) rfl #[.string x0] (by rfl) rfl rfl (by first | (simp only [List.map_toArray, List.map_cons, List.map_nil, Act.eval, Array.getD_eq_getD_getElem?, Option.getD_some, e20]; done) | (simp only [List.map_toArray, List.map_cons, List.map_nil, Act.eval, Array.getD_eq_getD_getElem?, Option.getD_some, e20]; rfl)) ?_
      with_reducible refine (shortT c x0 _ wz0 HSC.out).mono ?_
      rintro e w3 ⟨rfl, rfl⟩
      refine ⟨_, rfl, ?_⟩
      refine hK.out _ _ ⟨(by rw [ha.out]; exact putSel_upk 2 hb_ rfl rfl rfl), HBB.out, HBK.out⟩
    refine steps_cons ?_ ?_
    · intro b a w' hI_ hb_ hon hoff
      refine ⟨_, rfl, fun K hK => ?_⟩
      obtain ⟨ha, Q_HBB, Q_HBK⟩ := hI_
      have e5 : a.tmps[5]? = some (.pointer (some ⟨g, 0, none⟩)) := by rw [ha]; exact (putSel_off rfl).trans rfl
      replace ha := Aside0.mk ha
      have HBB := Aside0.mk Q_HBB
      have HBK := Aside0.mk Q_HBK
      refine value_ (w1 := w') (v := .pointer (some ⟨g, 1, none⟩)) (by rfl) rfl ?_ ?_
      · go_simp
        (try simp only [i64_w])
        try (first | rfl | assumption)
      refine hK.out _ _ ⟨(by rw [ha.out]; exact putSel_upk 3 hb_ rfl rfl rfl), Q_HBB, Q_HBK⟩
    refine steps_cons ?_ ?_
    · intro b a w' hI_ hb_ hon hoff
      refine ⟨_, rfl, fun K hK => ?_⟩
      obtain ⟨ha, Q_HBB, Q_HBK⟩ := hI_
      have e22 : a.tmps[22]? = some (.pointer (some ⟨g, 1, none⟩)) := by rw [ha]; exact putSel_on (e := (3, 22, .pointer (some ⟨g, 1, none⟩))) 3 rfl rfl (hon 3 (by kernel_rfl)) rfl
      replace ha := Aside0.mk ha
      have HBB := Aside0.mk Q_HBB
      have HBK := Aside0.mk Q_HBK
      have hcell := blk_cell HBK.out 0
      have hcell1 := blk_cell HBK.out 1
      refine value_ (w1 := w') (v := .string x1) (by rfl) rfl ?_ ?_
      · go_simp
        (try simp only [i64_w])
        try (first | rfl | assumption)
      refine hK.out _ _ ⟨(by rw [ha.out]; exact putSel_upk 4 hb_ rfl rfl rfl), Q_HBB, Q_HBK⟩
    refine steps_cons ?_ ?_
    · intro b a w' hI_ hb_ hon hoff
      refine ⟨_, rfl, fun K hK => ?_⟩
      obtain ⟨ha, Q_HBB, Q_HBK⟩ := hI_
      have e23 : a.tmps[23]? = some (.string x1) := by rw [ha]; exact putSel_on (e := (4, 23, .string x1)) 4 rfl rfl (hon 4 (by kernel_rfl)) rfl
      replace ha := Aside0.mk ha
      have HBB := Aside0.mk Q_HBB
      have HBK := Aside0.mk Q_HBK
      refine goes_ Try.func12 (by kernel_rfl) rfl #[.string x1] (by rfl) rfl rfl (by first | (simp only [List.map_toArray, List.map_cons, List.map_nil, Act.eval, Array.getD_eq_getD_getElem?, Option.getD_some, e23]; done) | (simp only [List.map_toArray, List.map_cons, List.map_nil, Act.eval, Array.getD_eq_getD_getElem?, Option.getD_some, e23]; rfl)) ?_
      with_reducible refine (shortT d x1 _ wz1 HSD.out).mono ?_
      rintro e w3 ⟨rfl, rfl⟩
      refine ⟨_, rfl, ?_⟩
      refine hK.out _ _ ⟨(by rw [ha.out]; exact putSel_upk 5 hb_ rfl rfl rfl), HBB.out, HBK.out⟩
    refine steps_cons ?_ ?_
    · intro b a w' hI_ hb_ hon hoff
      refine ⟨_, rfl, fun K hK => ?_⟩
      obtain ⟨ha, Q_HBB, Q_HBK⟩ := hI_
      have e21 : a.tmps[21]? = some (.string c) := by rw [ha]; exact putSel_on (e := (2, 21, .string c)) 2 rfl rfl (hon 2 (by kernel_rfl)) rfl
      have e24 : a.tmps[24]? = some (.string d) := by rw [ha]; exact putSel_on (e := (5, 24, .string d)) 5 rfl rfl (hon 5 (by kernel_rfl)) rfl
      replace ha := Aside0.mk ha
      have HBB := Aside0.mk Q_HBB
      have HBK := Aside0.mk Q_HBK
      refine goes_ Try.func17 (by kernel_rfl) rfl #[.string c, .string d] (by rfl) rfl rfl (by first | (simp only [List.map_toArray, List.map_cons, List.map_nil, Act.eval, Array.getD_eq_getD_getElem?, Option.getD_some, e21, e24]; done) | (simp only [List.map_toArray, List.map_cons, List.map_nil, Act.eval, Array.getD_eq_getD_getElem?, Option.getD_some, e21, e24]; rfl)) ?_
      with_reducible refine (hu1 _).mono ?_
      rintro e w3 ⟨rfl, hb_2⟩
      refine ⟨_, rfl, ?_⟩
      refine hK.out _ _ ⟨(by rw [ha.out]; exact putSel_upk 6 hb_ rfl rfl rfl), below_step HBB.out hb_2, blk_below HBK.out hb_2⟩
    refine steps_cons ?_ ?_
    · intro b a w' hI_ hb_ hon hoff
      refine ⟨_, rfl, fun K hK => ?_⟩
      obtain ⟨ha, Q_HBB, Q_HBK⟩ := hI_
      have e25 : a.tmps[25]? = some (.string u) := by rw [ha]; exact putSel_on (e := (6, 25, .string u)) 6 rfl rfl (hon 6 (by kernel_rfl)) rfl
      replace ha := Aside0.mk ha
      have HBB := Aside0.mk Q_HBB
      have HBK := Aside0.mk Q_HBK
      refine value_ (w1 := w') (v := .string u) (by rfl) rfl ?_ ?_
      · go_simp
        (try simp only [i64_w])
        try (first | rfl | assumption)
      refine hK.out _ _ ⟨(by rw [ha.out]; exact putSel_upk 7 hb_ rfl rfl rfl), Q_HBB, Q_HBK⟩
    exact steps_nil
  rintro b a wz hall ⟨ha, Q_HBB, Q_HBK⟩
  clear HBB HBK
  have hb0_ := hall 0 (by kernel_rfl)
  have hb1_ := hall 1 (by kernel_rfl)
  have hb2_ := hall 2 (by kernel_rfl)
  have hb3_ := hall 3 (by kernel_rfl)
  have hb4_ := hall 4 (by kernel_rfl)
  have hb5_ := hall 5 (by kernel_rfl)
  have hb6_ := hall 6 (by kernel_rfl)
  have hb7_ := hall 7 (by kernel_rfl)
  subst ha
  simp only [putSel, hb0_, hb1_, hb2_, hb3_, hb4_, hb5_, hb6_, hb7_, if_true, Act.put, List.setIfInBounds_toArray, List.set_cons_zero, List.set_cons_succ]
  have HBB := Aside0.mk Q_HBB
  clear Q_HBB
  have HBK := Aside0.mk Q_HBK
  clear Q_HBK
  clear hall hb0_ hb1_ hb2_ hb3_ hb4_ hb5_ hb6_ hb7_
  clear HB HBX
  have HB := HBB
  have HBX := HBK
  have hc0 : wz.cell? ⟨g, 0, none⟩ = some (.string x0) := blk_cell HBX.out 0
  have hc1 : wz.cell? ⟨g, 1, none⟩ = some (.string x1) := blk_cell HBX.out 1
  rcases HT2.out with ⟨rfl, hno⟩ | ⟨ht, hka, hkb⟩
  · cases hm : mayL (bytesOf p) with
    | false =>
      go_wp2_with fail
      refine (mayC false p _ (by omega) hm).mono ?_

      rintro e w_ ⟨rfl, hb⟩
      have n_ := Aside0.mk (below_step (by repeat (first | (with_reducible first | exact HB.out | apply below_alloc | apply pw_below_drewN | apply below_drew1) | exact HB.out)) hb); clear HB hb; have HB := n_; clear n_
      go_wp2
      go_ret
      exact ⟨rfl, (by repeat (first | (with_reducible first | exact HB.out | apply below_alloc | apply pw_below_drewN | apply below_drew1) | exact HB.out))⟩
    | true =>
      have hmq : mayL (bytesOf q) = false := by
        rcases hno with h | h
        · rw [h] at hm; cases hm
        · exact h
      have HM := Aside0.mk hm
      have HMQ := Aside0.mk hmq
      clear hm hmq hno
      go_wp2_with fail
      refine (mayC true p _ (by omega) HM.out).mono ?_

      rintro e w_ ⟨rfl, hb⟩
      have n_ := Aside0.mk (below_step (by repeat (first | (with_reducible first | exact HB.out | apply below_alloc | apply pw_below_drewN | apply below_drew1) | exact HB.out)) hb); clear HB hb; have HB := n_; clear n_
      go_wp2_with fail
      refine (mayC false q _ (by omega) HMQ.out).mono ?_

      rintro e w_ ⟨rfl, hb⟩
      have n_ := Aside0.mk (below_step (by repeat (first | (with_reducible first | exact HB.out | apply below_alloc | apply pw_below_drewN | apply below_drew1) | exact HB.out)) hb); clear HB hb; have HB := n_; clear n_
      go_wp2
      go_ret
      exact ⟨rfl, (by repeat (first | (with_reducible first | exact HB.out | apply below_alloc | apply pw_below_drewN | apply below_drew1) | exact HB.out))⟩
  · have hts : t.size = p.size + 1 + q.size := by rw [ht, ByteArray.size_append, ByteArray.size_append]; rfl
    have hne_t : ¬ t.toList = [] := fun e => by
      have e2 := congrArg List.length e
      rw [ByteArray.toList_eq, Array.length_toList] at e2
      have e3 : t.size = 0 := e2
      omega
    have hnf_t : (t.toList == ([] : List UInt8)) = false := beq_eq_false_iff_ne.mpr hne_t
    have hln : ((t.size : Int) == (p.size : Int) + (q.size : Int) + 1) = true := beq_iff_eq.mpr (by omega)
    have HIT : Aside0 (IsTag t) := ⟨⟨p, q, ht, hka, hkb⟩⟩
    rcases HU2.out with ⟨rfl, hno⟩ | ⟨hu0, hkc, hkd⟩
    · clear hno hts ht
      go_wp2
      go_ret
      exact ⟨rfl, (by repeat (first | (with_reducible first | exact HB.out | apply below_alloc | apply pw_below_drewN | apply below_drew1) | exact HB.out))⟩
    · have hus : u.size = c.size + 1 + d.size := by rw [hu0, ByteArray.size_append, ByteArray.size_append]; rfl
      have hne_u : ¬ u.toList = [] := fun e => by
        have e2 := congrArg List.length e
        rw [ByteArray.toList_eq, Array.length_toList] at e2
        have e3 : u.size = 0 := e2
        omega
      have hnf_u : (u.toList == ([] : List UInt8)) = false := beq_eq_false_iff_ne.mpr hne_u
      have hsame : (t.toList == u.toList) = decide (p = c ∧ q = d) := by
        rw [str_beq', decide_eq_decide]
        constructor
        · intro e
          rw [ht, hu0] at e
          exact tag_inj hka hkc e
        · rintro ⟨rfl, rfl⟩
          rw [ht, hu0]
      have HSM := Aside0.mk hsame
      clear hsame ht hu0 hka hkb hkc hkd hts hus
      by_cases hpc : p = c
      · have e1 : (p.toList == c.toList) = true := by rw [str_beq', decide_eq_true hpc]
        by_cases hqd : q = d
        · have e2 : (q.toList == d.toList) = true := by rw [str_beq', decide_eq_true hqd]
          have e3 : (t.toList == u.toList) = true := by rw [HSM.out, decide_eq_true ⟨hpc, hqd⟩]
          clear hpc hqd
          go_wp2_with fail
          refine (shortT c x0 _ wz0 HSC.out).mono ?_
          rintro e w_ ⟨rfl, rfl⟩
          go_wp2_with fail
          refine (shortT d x1 _ wz1 HSD.out).mono ?_
          rintro e w_ ⟨rfl, rfl⟩
          go_wp2_with fail
          refine (mayC false t _ (by omega) (tag_noName HIT.out)).mono ?_

          rintro e w_ ⟨rfl, hb⟩
          have n_ := Aside0.mk (below_step (by repeat (first | (with_reducible first | exact HB.out | apply below_alloc | apply pw_below_drewN | apply below_drew1) | exact HB.out)) hb); clear HB hb; have HB := n_; clear n_
          go_wp2_with fail
          refine (mayTagYes t _ HIT.out (by omega)).mono ?_

          rintro e w_ ⟨rfl, hb⟩
          have n_ := Aside0.mk (below_step (by repeat (first | (with_reducible first | exact HB.out | apply below_alloc | apply pw_below_drewN | apply below_drew1) | exact HB.out)) hb); clear HB hb; have HB := n_; clear n_
          go_wp2
          go_ret
          exact ⟨rfl, (by repeat (first | (with_reducible first | exact HB.out | apply below_alloc | apply pw_below_drewN | apply below_drew1) | exact HB.out))⟩
        · have e2 : (q.toList == d.toList) = false := by rw [str_beq', decide_eq_false hqd]
          have e3 : (t.toList == u.toList) = false := by rw [HSM.out, decide_eq_false (fun h => hqd h.2)]
          clear hpc hqd
          go_wp2_with fail
          refine (shortT c x0 _ wz0 HSC.out).mono ?_
          rintro e w_ ⟨rfl, rfl⟩
          go_wp2_with fail
          refine (shortT d x1 _ wz1 HSD.out).mono ?_
          rintro e w_ ⟨rfl, rfl⟩
          go_wp2_with fail
          refine (mayC false t _ (by omega) (tag_noName HIT.out)).mono ?_

          rintro e w_ ⟨rfl, hb⟩
          have n_ := Aside0.mk (below_step (by repeat (first | (with_reducible first | exact HB.out | apply below_alloc | apply pw_below_drewN | apply below_drew1) | exact HB.out)) hb); clear HB hb; have HB := n_; clear n_
          go_wp2_with fail
          refine (mayTagYes t _ HIT.out (by omega)).mono ?_

          rintro e w_ ⟨rfl, hb⟩
          have n_ := Aside0.mk (below_step (by repeat (first | (with_reducible first | exact HB.out | apply below_alloc | apply pw_below_drewN | apply below_drew1) | exact HB.out)) hb); clear HB hb; have HB := n_; clear n_
          go_wp2
          go_ret
          exact ⟨rfl, (by repeat (first | (with_reducible first | exact HB.out | apply below_alloc | apply pw_below_drewN | apply below_drew1) | exact HB.out))⟩
      · have e1 : (p.toList == c.toList) = false := by rw [str_beq', decide_eq_false hpc]
        have e3 : (t.toList == u.toList) = false := by rw [HSM.out, decide_eq_false (fun h => hpc h.1)]
        clear hpc
        go_wp2_with fail
        refine (shortT c x0 _ wz0 HSC.out).mono ?_
        rintro e w_ ⟨rfl, rfl⟩
        go_wp2_with fail
        refine (mayC false t _ (by omega) (tag_noName HIT.out)).mono ?_

        rintro e w_ ⟨rfl, hb⟩
        have n_ := Aside0.mk (below_step (by repeat (first | (with_reducible first | exact HB.out | apply below_alloc | apply pw_below_drewN | apply below_drew1) | exact HB.out)) hb); clear HB hb; have HB := n_; clear n_
        go_wp2_with fail
        refine (mayTagYes t _ HIT.out (by omega)).mono ?_

        rintro e w_ ⟨rfl, hb⟩
        have n_ := Aside0.mk (below_step (by repeat (first | (with_reducible first | exact HB.out | apply below_alloc | apply pw_below_drewN | apply below_drew1) | exact HB.out)) hb); clear HB hb; have HB := n_; clear n_
        go_wp2
        go_ret
        exact ⟨rfl, (by repeat (first | (with_reducible first | exact HB.out | apply below_alloc | apply pw_below_drewN | apply below_drew1) | exact HB.out))⟩
end Go.Proofs.Ytkbnckpcllfikaa.Nam

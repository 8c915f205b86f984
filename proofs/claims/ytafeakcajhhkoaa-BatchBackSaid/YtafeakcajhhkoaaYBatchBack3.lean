/- What is wrong with an event: the walk of event.May. The contract of event.May, in the form that the printed functions ask. evcode.Take: what it answers, and its walk. The reference's names, in closed form. Functions of the program, told as plain functions, with their walks: written by a program of this claim's out of the translation. The reference's tags, in closed form. The reference's rows of texts: all are tags, they rise, they are the same: in closed form. What is wrong with an event, and whether two events are the same, as the reference says: in closed form. The contracts of numbers and texts as bytes, in the form that the printed functions ask. -/
import Derived.Test.YtafeakcajhhkoaaYBatchBack1
import Derived.Test.YtafeakcajhhkoaaYBatchBack2
namespace Go.Proofs.Ytafeakcajhhkoaa.Nam
open Go.RowKit Go.Proofs.YtafeakcajhhkoaaW.PrintWords Go.Proofs.YtafeakcajhhkoaaW.PrintLast Go.Proofs.YtafeakcajhhkoaaW.PrintMore Go.Proofs.Ytafeakcajhhkoaa.Num Go.Proofs.Ytafeakcajhhkoaa.Prt
set_option linter.unusedVariables false
set_option linter.unusedSimpArgs false

/-- What is wrong with an event. -/
def mayE (s t : ByteArray) (tags : List ByteArray) (fl : List S50) : Int :=
  if mayL (bytesOf s) = false ∨ mayL (bytesOf t) = false then 5 else if 6 < tags.length ∨ 4 < fl.length then 3
  else if (tags.any fun s => !tagB s) = true ∨ ((fl.map (·.f0)).any fun s => !mayL (bytesOf s)) = true then 5
  else if riseB tags = false ∨ riseB (fl.map (·.f0)) = false ∨ fl.any overB = true then 1 else 0
theorem fnAt_below {g : Nat} {w w1 : World} {v : Value} (h : g < w.heap.size ∧ w.cell? ⟨g, 0, none⟩ = some v) (hb : Below w.heap.size w w1) : g < w1.heap.size ∧ w1.cell? ⟨g, 0, none⟩ = some v :=
  ⟨Nat.lt_of_lt_of_le h.1 hb.size, (hb.cell h.1).trans h.2⟩
theorem notTagB (b : Bool) (l : List ByteArray) (h : (l.any fun s => !tagB s) = b) (A : Option Addr) (c : Nat) (g : Nat) (w : World) (hC : Kd.C Kd.string w A l.length l) (hs : ∀ s ∈ l, s.size ≤ 9223372036854775807) (hl : g < w.heap.size) (hg : w.cell? ⟨g, 0, none⟩ = some (.func (.func 40) #[] #[])) :
    Calls Try.prog 38 #[.slice A l.length c, .func (.func 54) #[] #[.pointer (some ⟨g, 0, none⟩)]] w fun e w' => e = .returned (.bool b) ∧ Below w.heap.size w w' := h ▸ notTagC l A c g w hC hs hl hg
theorem notNameB (b : Bool) (l : List ByteArray) (h : (l.any fun s => !mayL (bytesOf s)) = b) (A : Option Addr) (c : Nat) (g : Nat) (w : World) (hC : Kd.C Kd.string w A l.length l) (hs : ∀ s ∈ l, s.size ≤ 9223372036854775807) (hl : g < w.heap.size) (hg : w.cell? ⟨g, 0, none⟩ = some (.func (.func 37) #[] #[])) :
    Calls Try.prog 38 #[.slice A l.length c, .func (.func 54) #[] #[.pointer (some ⟨g, 0, none⟩)]] w fun e w' => e = .returned (.bool b) ∧ Below w.heap.size w w' := h ▸ notNameC l A c g w hC hs hl hg
open Go.Proofs.YtafeakcajhhkoaaW.PrintLast
def D22.T7 : Bool × List (List Nat × List Nat) := (true, [([], []), ([0], [0]), ([], []), ([1, 2, 2], [1, 2]), ([3, 3], [3]), ([4], [4]), ([4, 4], [4]), ([5, 6, 6, 4], [4, 5, 6]), ([4, 7], [4, 7]), ([8, 7], [8])])
def D22.B7 : List Nat := [0, 1, 0, 7, 15, 31, 31, 127, 255, 511]
theorem D22.tab7 : rtab .any (opsOf Try.f22 7) = D22.T7 := by kernel_rfl
theorem D22.bits7 : waitsOk D22.T7.2 D22.B7 = true := by kernel_rfl
set_option maxHeartbeats 4000000 in
theorem eventMay_calls (s t : ByteArray) (A2 A3 : Option Addr) (c2 c3 : Nat) (l2 : List ByteArray) (l3 : List S50) (w : World) (hr2 : Kd.C Kd.string w A2 l2.length l2) (hc2 : l2.length ≤ c2) (hr3 : Kd.C k50 w A3 l3.length l3) (hc3 : l3.length ≤ c3)
    (hs : s.size ≤ 9223372036854775807) (ht : t.size ≤ 9223372036854775807) (hzt : ∀ x ∈ l2, x.size ≤ 9223372036854775807) (hzf : ∀ x ∈ l3, x.f0.size ≤ 9223372036854775807) (hl3 : l3.length < 8796093022208) :
    Calls Try.prog 22 #[.agg #[.string s, .string t, .slice A2 l2.length c2, .slice A3 l3.length c3]] w fun e w' => e = .returned (.int .i64 (mayE s t l2 l3)) ∧ Below w.heap.size w w' := by
  have HR2 := Aside0.mk hr2
  have HR3 := Aside0.mk hr3
  have HC2 := Aside0.mk hc2
  have HC3 := Aside0.mk hc3
  have HZT := Aside0.mk hzt
  have hm2 := Kd.C_max hr2
  have HB := Aside0.mk (Below.refl w.heap.size w)
  have hu40 := Try.underlying40
  obtain ⟨nm, hnm⟩ : ∃ nm : List ByteArray, nm = l3.map (·.f0) := ⟨_, rfl⟩
  have HNM := Aside0.mk hnm
  have HNV := Aside0.mk ((names_val l3 hl3).trans (congrArg some hnm.symm))
  have hln : nm.length = l3.length := by rw [hnm, List.length_map]
  have HZF : Aside0 (∀ x ∈ nm, x.size ≤ 9223372036854775807) := ⟨fun x hx => by rw [hnm] at hx; obtain ⟨y, hy, rfl⟩ := List.mem_map.1 hx; exact hzf y hy⟩
  obtain ⟨E, hE⟩ : ∃ E, E = mayE s t l2 l3 := ⟨_, rfl⟩
  rw [← hE]
  have HE := Aside0.mk hE
  have HLN := Aside0.mk hln
  clear hr2 hr3 hc2 hc3 hzt hzf hnm hE hln
  go_enter Try.func22, Try.ntmps22
  go_wp2_with (first | ((with_reducible refine gate_dst (N := 1) rfl ?_); refine box_event ?hg (N := 1) ?hd (cs := #[.string s, .string t, .slice A2 l2.length c2, .slice A3 l3.length c3]) (t := 40) ?hr ?_; (case hd => rfl); (case hg => rfl); (case hr => first | (go_simp; done) | (go_simp; rfl)); intro g hg w2 hbox hb; have n1_ := Aside0.mk hbox; have n2_ := Aside0.mk hb; clear HB hbox hg hb; have HX := n1_; have HB := n2_; clear n1_ n2_; have hx0 := blk_cell HX.out 0; have hx1 := blk_cell HX.out 1; have hx2 := blk_cell HX.out 2; have hx3 := blk_cell HX.out 3))
  refine (event_names.calls (l3.length + 1) A3 c3 l3 nm w2 (Kd.C_below HR3.out HB.out) HC3.out HNV.out).mono ?_
  rintro e w3 ⟨v3, rfl, ho, hb⟩
  obtain ⟨A4, c4, rfl, hc4, hC4⟩ := Kd.R_reads ho
  have HC4 := Aside0.mk hc4
  have HR4 := Aside0.mk hC4
  clear ho hc4 hC4 hx0 hx1 hx2 hx3
  have n1_ := Aside0.mk (below_step HB.out hb); have n2_ := Aside0.mk (blk_below HX.out hb); clear HB HX; have HB := n1_; have HX := n2_; clear n1_ n2_ hb
  have hx0 := blk_cell HX.out 0; have hx1 := blk_cell HX.out 1; have hx2 := blk_cell HX.out 2; have hx3 := blk_cell HX.out 3
  go_wp2_with fail
  refine (may_calls s _ hs).mono ?_
  rintro e w4a ⟨rfl, hb⟩
  have n1_ := Aside0.mk (below_step HB.out hb); have n2_ := Aside0.mk (blk_below HX.out hb); clear HB HX; have HB := n1_; have HX := n2_; clear n1_ n2_; have n1_ := Aside0.mk (Kd.C_below HR4.out hb); clear HR4; have HR4 := n1_; clear n1_ hb; clear hx0 hx1 hx2 hx3; have hx0 := blk_cell HX.out 0; have hx1 := blk_cell HX.out 1; have hx2 := blk_cell HX.out 2; have hx3 := blk_cell HX.out 3
  cases hm1 : mayL (bytesOf s) with
  | false =>
    go_wp2
    go_ret
    exact ⟨ret_i64 (HE.out.trans (by unfold mayE; rw [← HNM.out]; exact if_pos (.inl hm1))).symm, HB.out⟩
  | true =>
    go_wp2_with fail
    refine (may_calls t _ ht).mono ?_
    rintro e w5 ⟨rfl, hb⟩
    have n1_ := Aside0.mk (below_step HB.out hb); have n2_ := Aside0.mk (blk_below HX.out hb); clear HB HX; have HB := n1_; have HX := n2_; clear n1_ n2_; have n1_ := Aside0.mk (Kd.C_below HR4.out hb); clear HR4; have HR4 := n1_; clear n1_ hb; clear hx0 hx1 hx2 hx3; have hx0 := blk_cell HX.out 0; have hx1 := blk_cell HX.out 1; have hx2 := blk_cell HX.out 2; have hx3 := blk_cell HX.out 3
    cases hm2 : mayL (bytesOf t) with
    | false =>
      go_wp2
      go_ret
      exact ⟨ret_i64 (HE.out.trans (by unfold mayE; rw [← HNM.out]; exact if_pos (.inr hm2))).symm, HB.out⟩
    | true =>
      have H12 : Aside0 (E = if 6 < l2.length ∨ 4 < nm.length then 3 else if (l2.any fun s => !tagB s) = true ∨ (nm.any fun s => !mayL (bytesOf s)) = true then 5 else if riseB l2 = false ∨ riseB nm = false ∨ l3.any overB = true then 1 else 0) := ⟨by rw [HE.out, HLN.out]; unfold mayE; rw [← HNM.out, if_neg (by rw [hm1, hm2]; simp)]⟩
      clear HE hm1 hm2
      by_cases h6 : 6 < l2.length
      · have hd : decide ((6 : Int) < (l2.length : Int)) = true := decide_eq_true (by omega)
        have HG := Aside0.mk (H12.out.trans (if_pos (.inl h6)))
        go_wp2
        go_ret
        exact ⟨ret_i64 HG.out.symm, HB.out⟩
      have hd6 : decide ((6 : Int) < (l2.length : Int)) = false := decide_eq_false (by omega)
      by_cases h4 : 4 < nm.length
      · have hd : decide ((4 : Int) < (nm.length : Int)) = true := decide_eq_true (by omega)
        have HG := Aside0.mk (H12.out.trans (if_pos (.inr h4)))
        go_wp2
        go_ret
        exact ⟨ret_i64 HG.out.symm, HB.out⟩
      have hd4 : decide ((4 : Int) < (nm.length : Int)) = false := decide_eq_false (by omega)
      have H34 := Aside0.mk (H12.out.trans (if_neg (by omega)))
      clear H12
      go_wp2_with fail
      have HBB := Aside0.mk (below_drew (Below.refl w5.heap.size w5))
      cases h7 : (l2.any fun s => !tagB s) with
      | true =>
        have HT7 := Aside0.mk h7
        have HG := Aside0.mk (H34.out.trans (if_pos (.inl h7)))
        clear h7 hx0 hx1 hx2 hx3
        refine start_ (n := 10) (S := fun w' => True) (ds := []) #[false, false, false, false, false, false, false, false, false, false] (by kernel_rfl) rfl rfl trivial (fun hHeld => ?_); refine with_tabW D22.tab7 D22.bits7 (fun HT_ HW_ => ?_)
        refine inv_at [0, 1, 2, 3, 4, 5, 6, 7, 8, 9] (fun a0_ b a w' => ∃ (g32 : Nat) (m2_ : Value), a = putSel a0_ b [(0, 30, .pointer (some ⟨g, 2, none⟩)), (1, 31, .slice A2 l2.length c2), (2, 32, m2_), (3, 33, .bool true), (4, 34, .bool true), (5, 35, undef), (6, 36, undef), (7, 37, undef), (8, 38, (Value.bool true)), (9, 29, (Value.bool true))] ∧ (Below w5.heap.size w5 w') ∧ (b 2 = true → (g32 < w'.heap.size ∧ w'.cell? ⟨g32, 0, none⟩ = some (.func (.func 40) #[] #[]))) ∧ (b 2 = true → (m2_ : Value) = .func (.func 54) #[] #[.pointer (some ⟨g32, 0, none⟩)])) HT_.out HW_.out (by kernel_rfl) (by kernel_rfl) ?_ ?_ ?_
        · exact ⟨0, .bool false, by simp only [putSel, Bool.false_eq_true, if_false], HBB.out, fun h_ => absurd h_ (by decide), fun h_ => absurd h_ (by decide)⟩
        · clear HT_ HW_ hHeld
          clear HBB
          refine steps_cons ?_ ?_
          · intro b a w' hI_ hb_ hon hoff
            refine ⟨_, rfl, fun K hK => ?_⟩
            obtain ⟨g32, m2_, ha, Q_HBB, Q_HQ32, Q_X2_⟩ := hI_
            have e1 : a.tmps[1]? = some (.pointer (some ⟨g, 0, none⟩)) := by rw [ha]; exact (putSel_off rfl).trans rfl
            replace ha := Aside0.mk ha
            have HBB := Aside0.mk Q_HBB
            refine value_ (w1 := w') (v := .pointer (some ⟨g, 2, none⟩)) (by rfl) rfl ?_ ?_
            · go_simp
              (try simp only [i64_w])
              try (first | rfl | assumption)
            refine hK.out _ _ ⟨g32, m2_, (by rw [ha.out]; exact putSel_upk 0 hb_ rfl rfl rfl), Q_HBB, Q_HQ32, Q_X2_⟩
          refine steps_cons ?_ ?_
          · intro b a w' hI_ hb_ hon hoff
            refine ⟨_, rfl, fun K hK => ?_⟩
            obtain ⟨g32, m2_, ha, Q_HBB, Q_HQ32, Q_X2_⟩ := hI_
            have e30 : a.tmps[30]? = some (.pointer (some ⟨g, 2, none⟩)) := by rw [ha]; exact putSel_on (e := (0, 30, .pointer (some ⟨g, 2, none⟩))) 0 rfl rfl (hon 0 (by kernel_rfl)) rfl
            replace ha := Aside0.mk ha
            have HBB := Aside0.mk Q_HBB
            have hx2 := (HBB.out.cell (blk_lt HX.out)).trans (blk_cell HX.out 2)
            refine value_ (w1 := w') (v := .slice A2 l2.length c2) (by rfl) rfl ?_ ?_
            · go_simp
              (try simp only [i64_w])
              try (first | rfl | assumption)
            refine hK.out _ _ ⟨g32, m2_, (by rw [ha.out]; exact putSel_upk 1 hb_ rfl rfl rfl), Q_HBB, Q_HQ32, Q_X2_⟩
          refine steps_cons ?_ ?_
          · intro b a w' hI_ hb_ hon hoff
            refine ⟨_, rfl, fun K hK => ?_⟩
            obtain ⟨g32, m2_, ha, Q_HBB, Q_HQ32, Q_X2_⟩ := hI_
            replace ha := Aside0.mk ha
            have HBB := Aside0.mk Q_HBB
            refine goes_ Try.func39 (by kernel_rfl) rfl #[.func (.func 40) #[] #[]] (by rfl) rfl rfl (by first | (simp only [List.map_toArray, List.map_cons, List.map_nil, Act.eval, Array.getD_eq_getD_getElem?, Option.getD_some]; done) | (simp only [List.map_toArray, List.map_cons, List.map_nil, Act.eval, Array.getD_eq_getD_getElem?, Option.getD_some]; rfl)) ?_
            with_reducible refine (not_calls 40 _).mono ?_
            rintro e w3 ⟨g_, rfl, hq_, hl_, hb_2⟩
            refine ⟨_, rfl, ?_⟩
            refine hK.out _ _ ⟨g_, (.func (.func 54) #[] #[.pointer (some ⟨g_, 0, none⟩)]), (by rw [ha.out]; exact putSel_upk 2 hb_ rfl rfl rfl), below_step HBB.out hb_2, fun _ => ⟨hl_, hq_⟩, fun _ => rfl⟩
          refine steps_cons ?_ ?_
          · intro b a w' hI_ hb_ hon hoff
            refine ⟨_, rfl, fun K hK => ?_⟩
            obtain ⟨g32, m2_, ha, Q_HBB, Q_HQ32, Q_X2_⟩ := hI_
            have e31 : a.tmps[31]? = some (.slice A2 l2.length c2) := by rw [ha]; exact putSel_on (e := (1, 31, .slice A2 l2.length c2)) 1 rfl rfl (hon 1 (by kernel_rfl)) rfl
            have e32 : a.tmps[32]? = some (m2_) := by rw [ha]; exact putSel_on (e := (2, 32, m2_)) 2 rfl rfl (hon 2 (by kernel_rfl)) rfl
            rw [Q_X2_ (hon 2 (by kernel_rfl))] at e32
            replace ha := Aside0.mk ha
            have HBB := Aside0.mk Q_HBB
            have HQ32 := Aside0.mk (Q_HQ32 (hon 2 (by kernel_rfl)))
            refine goes_ Try.func38 (by kernel_rfl) rfl #[.slice A2 l2.length c2, .func (.func 54) #[] #[.pointer (some ⟨g32, 0, none⟩)]] (by rfl) rfl rfl (by first | (simp only [List.map_toArray, List.map_cons, List.map_nil, Act.eval, Array.getD_eq_getD_getElem?, Option.getD_some, e31, e32]; done) | (simp only [List.map_toArray, List.map_cons, List.map_nil, Act.eval, Array.getD_eq_getD_getElem?, Option.getD_some, e31, e32]; rfl)) ?_
            with_reducible refine (notTagB true l2 HT7.out A2 c2 g32 _ (Kd.C_below (Kd.C_below HR2.out HB.out) HBB.out) HZT.out HQ32.out.1 HQ32.out.2).mono ?_
            rintro e w3 ⟨rfl, hb_2⟩
            refine ⟨_, rfl, ?_⟩
            refine hK.out _ _ ⟨g32, m2_, (by rw [ha.out]; exact putSel_upk 3 hb_ rfl rfl rfl), below_step HBB.out hb_2, fun _ => (fnAt_below HQ32.out hb_2), Q_X2_⟩
          refine steps_cons ?_ ?_
          · intro b a w' hI_ hb_ hon hoff
            refine ⟨_, rfl, fun K hK => ?_⟩
            obtain ⟨g32, m2_, ha, Q_HBB, Q_HQ32, Q_X2_⟩ := hI_
            have e33 : a.tmps[33]? = some (.bool true) := by rw [ha]; exact putSel_on (e := (3, 33, .bool true)) 3 rfl rfl (hon 3 (by kernel_rfl)) rfl
            replace ha := Aside0.mk ha
            have HBB := Aside0.mk Q_HBB
            have HQ32 := Aside0.mk (Q_HQ32 (hon 2 (by kernel_rfl)))
            refine value_ (w1 := w') (v := .bool true) (by rfl) rfl ?_ ?_
            · go_simp
              (try simp only [i64_w])
              try (first | rfl | assumption)
            refine hK.out _ _ ⟨g32, m2_, (by rw [ha.out]; exact putSel_upk 4 hb_ rfl rfl rfl), Q_HBB, Q_HQ32, Q_X2_⟩
          refine steps_cons ?_ ?_
          · intro b a w' hI_ hb_ hon hoff
            refine ⟨_, rfl, fun K hK => ?_⟩
            obtain ⟨g32, m2_, ha, Q_HBB, Q_HQ32, Q_X2_⟩ := hI_
            have e34 : a.tmps[34]? = some (.bool true) := by rw [ha]; exact putSel_on (e := (4, 34, .bool true)) 4 rfl rfl (hon 4 (by kernel_rfl)) rfl
            replace ha := Aside0.mk ha
            have HBB := Aside0.mk Q_HBB
            have HQ32 := Aside0.mk (Q_HQ32 (hon 2 (by kernel_rfl)))
            refine off_ (wanted_off rfl rfl rfl (e34.trans (by first | rfl | (simp [*]; done)))) ?_
            refine hK.out _ _ ⟨g32, m2_, (by rw [ha.out]; exact putSel_upk 5 hb_ rfl rfl rfl), Q_HBB, Q_HQ32, Q_X2_⟩
          refine steps_cons ?_ ?_
          · intro b a w' hI_ hb_ hon hoff
            refine ⟨_, rfl, fun K hK => ?_⟩
            obtain ⟨g32, m2_, ha, Q_HBB, Q_HQ32, Q_X2_⟩ := hI_
            have e34 : a.tmps[34]? = some (.bool true) := by rw [ha]; exact putSel_on (e := (4, 34, .bool true)) 4 rfl rfl (hon 4 (by kernel_rfl)) rfl
            replace ha := Aside0.mk ha
            have HBB := Aside0.mk Q_HBB
            have HQ32 := Aside0.mk (Q_HQ32 (hon 2 (by kernel_rfl)))
            refine off_ (wanted_off rfl rfl rfl (e34.trans (by first | rfl | (simp [*]; done)))) ?_
            refine hK.out _ _ ⟨g32, m2_, (by rw [ha.out]; exact putSel_upk 6 hb_ rfl rfl rfl), Q_HBB, Q_HQ32, Q_X2_⟩
          refine steps_cons ?_ ?_
          · intro b a w' hI_ hb_ hon hoff
            refine ⟨_, rfl, fun K hK => ?_⟩
            obtain ⟨g32, m2_, ha, Q_HBB, Q_HQ32, Q_X2_⟩ := hI_
            have e34 : a.tmps[34]? = some (.bool true) := by rw [ha]; exact putSel_on (e := (4, 34, .bool true)) 4 rfl rfl (hon 4 (by kernel_rfl)) rfl
            replace ha := Aside0.mk ha
            have HBB := Aside0.mk Q_HBB
            have HQ32 := Aside0.mk (Q_HQ32 (hon 2 (by kernel_rfl)))
            refine off_ (wanted_off rfl rfl rfl (e34.trans (by first | rfl | (simp [*]; done)))) ?_
            refine hK.out _ _ ⟨g32, m2_, (by rw [ha.out]; exact putSel_upk 7 hb_ rfl rfl rfl), Q_HBB, Q_HQ32, Q_X2_⟩
          refine steps_cons ?_ ?_
          · intro b a w' hI_ hb_ hon hoff
            refine ⟨_, rfl, fun K hK => ?_⟩
            obtain ⟨g32, m2_, ha, Q_HBB, Q_HQ32, Q_X2_⟩ := hI_
            have e34 : a.tmps[34]? = some (.bool true) := by rw [ha]; exact putSel_on (e := (4, 34, .bool true)) 4 rfl rfl (hon 4 (by kernel_rfl)) rfl
            have e37 : a.tmps[37]? = some (undef) := by rw [ha]; exact putSel_on (e := (7, 37, undef)) 7 rfl rfl (hon 7 (by kernel_rfl)) rfl
            replace ha := Aside0.mk ha
            have HBB := Aside0.mk Q_HBB
            have HQ32 := Aside0.mk (Q_HQ32 (hon 2 (by kernel_rfl)))
            refine value_ (w1 := w') (v := (Value.bool true)) (by rfl) rfl ?_ ?_
            · go_simp
              (try simp only [i64_w])
              try (first | rfl | assumption)
            refine hK.out _ _ ⟨g32, m2_, (by rw [ha.out]; exact putSel_upk 8 hb_ rfl rfl rfl), Q_HBB, Q_HQ32, Q_X2_⟩
          refine steps_cons ?_ ?_
          · intro b a w' hI_ hb_ hon hoff
            refine ⟨_, rfl, fun K hK => ?_⟩
            obtain ⟨g32, m2_, ha, Q_HBB, Q_HQ32, Q_X2_⟩ := hI_
            have e38 : a.tmps[38]? = some ((Value.bool true)) := by rw [ha]; exact putSel_on (e := (8, 38, (Value.bool true))) 8 rfl rfl (hon 8 (by kernel_rfl)) rfl
            replace ha := Aside0.mk ha
            have HBB := Aside0.mk Q_HBB
            have HQ32 := Aside0.mk (Q_HQ32 (hon 2 (by kernel_rfl)))
            refine value_ (w1 := w') (v := (Value.bool true)) (by rfl) rfl ?_ ?_
            · go_simp
              (try simp only [i64_w])
              try (first | rfl | assumption)
            refine hK.out _ _ ⟨g32, m2_, (by rw [ha.out]; exact putSel_upk 9 hb_ rfl rfl rfl), Q_HBB, Q_HQ32, Q_X2_⟩
          exact steps_nil
        rintro b a wz hall ⟨g32, m2_, ha, Q_HBB, Q_HQ32, Q_X2_⟩
        clear HBB
        have hb0_ := hall 0 (by kernel_rfl)
        have hb1_ := hall 1 (by kernel_rfl)
        have hb2_ := hall 2 (by kernel_rfl)
        have hb3_ := hall 3 (by kernel_rfl)
        have hb4_ := hall 4 (by kernel_rfl)
        have hb5_ := hall 5 (by kernel_rfl)
        have hb6_ := hall 6 (by kernel_rfl)
        have hb7_ := hall 7 (by kernel_rfl)
        have hb8_ := hall 8 (by kernel_rfl)
        have hb9_ := hall 9 (by kernel_rfl)
        subst ha
        obtain rfl := Q_X2_ hb2_
        simp only [putSel, hb0_, hb1_, hb2_, hb3_, hb4_, hb5_, hb6_, hb7_, hb8_, hb9_, if_true, Act.put, List.setIfInBounds_toArray, List.set_cons_zero, List.set_cons_succ]
        have HBB := Aside0.mk Q_HBB
        clear Q_HBB
        have HQ32 := Aside0.mk (Q_HQ32 hb2_)
        clear Q_HQ32
        clear hall hb0_ hb1_ hb2_ hb3_ hb4_ hb5_ hb6_ hb7_ hb8_ hb9_
        go_wp2
        go_ret
        exact ⟨ret_i64 HG.out.symm, below_step HB.out HBB.out⟩
      | false =>
        have HT7 := Aside0.mk h7
        cases h8 : (nm.any fun s => !mayL (bytesOf s)) with
        | true =>
          have HF7 := Aside0.mk h8
          have HG := Aside0.mk (H34.out.trans (if_pos (.inr h8)))
          clear h7 h8 hx0 hx1 hx2 hx3
          refine start_ (n := 10) (S := fun w' => True) (ds := []) #[false, false, false, false, false, false, false, false, false, false] (by kernel_rfl) rfl rfl trivial (fun hHeld => ?_); refine with_tabW D22.tab7 D22.bits7 (fun HT_ HW_ => ?_)
          refine inv_at [0, 1, 2, 3, 4, 5, 6, 7, 8, 9] (fun a0_ b a w' => ∃ (g32 : Nat) (g36 : Nat) (m2_ : Value) (m6_ : Value), a = putSel a0_ b [(0, 30, .pointer (some ⟨g, 2, none⟩)), (1, 31, .slice A2 l2.length c2), (2, 32, m2_), (3, 33, .bool false), (4, 34, .bool false), (5, 35, .slice A4 nm.length c4), (6, 36, m6_), (7, 37, .bool true), (8, 38, .bool true), (9, 29, .bool true)] ∧ (Below w5.heap.size w5 w') ∧ (b 2 = true → (g32 < w'.heap.size ∧ w'.cell? ⟨g32, 0, none⟩ = some (.func (.func 40) #[] #[]))) ∧ (b 6 = true → (g36 < w'.heap.size ∧ w'.cell? ⟨g36, 0, none⟩ = some (.func (.func 37) #[] #[]))) ∧ (b 2 = true → (m2_ : Value) = .func (.func 54) #[] #[.pointer (some ⟨g32, 0, none⟩)]) ∧ (b 6 = true → (m6_ : Value) = .func (.func 54) #[] #[.pointer (some ⟨g36, 0, none⟩)])) HT_.out HW_.out (by kernel_rfl) (by kernel_rfl) ?_ ?_ ?_
          · exact ⟨0, 0, .bool false, .bool false, by simp only [putSel, Bool.false_eq_true, if_false], HBB.out, fun h_ => absurd h_ (by decide), fun h_ => absurd h_ (by decide), fun h_ => absurd h_ (by decide), fun h_ => absurd h_ (by decide)⟩
          · clear HT_ HW_ hHeld
            clear HBB
            refine steps_cons ?_ ?_
            · intro b a w' hI_ hb_ hon hoff
              refine ⟨_, rfl, fun K hK => ?_⟩
              obtain ⟨g32, g36, m2_, m6_, ha, Q_HBB, Q_HQ32, Q_HQ36, Q_X2_, Q_X6_⟩ := hI_
              have e1 : a.tmps[1]? = some (.pointer (some ⟨g, 0, none⟩)) := by rw [ha]; exact (putSel_off rfl).trans rfl
              replace ha := Aside0.mk ha
              have HBB := Aside0.mk Q_HBB
              refine value_ (w1 := w') (v := .pointer (some ⟨g, 2, none⟩)) (by rfl) rfl ?_ ?_
              · go_simp
                (try simp only [i64_w])
                try (first | rfl | assumption)
              refine hK.out _ _ ⟨g32, g36, m2_, m6_, (by rw [ha.out]; exact putSel_upk 0 hb_ rfl rfl rfl), Q_HBB, Q_HQ32, fun h0_ => absurd ((hoff 6 (by kernel_rfl)).symm.trans h0_) (by decide), Q_X2_, fun h0_ => absurd ((hoff 6 (by kernel_rfl)).symm.trans h0_) (by decide)⟩
            refine steps_cons ?_ ?_
            · intro b a w' hI_ hb_ hon hoff
              refine ⟨_, rfl, fun K hK => ?_⟩
              obtain ⟨g32, g36, m2_, m6_, ha, Q_HBB, Q_HQ32, Q_HQ36, Q_X2_, Q_X6_⟩ := hI_
              have e30 : a.tmps[30]? = some (.pointer (some ⟨g, 2, none⟩)) := by rw [ha]; exact putSel_on (e := (0, 30, .pointer (some ⟨g, 2, none⟩))) 0 rfl rfl (hon 0 (by kernel_rfl)) rfl
              replace ha := Aside0.mk ha
              have HBB := Aside0.mk Q_HBB
              have hx2 := (HBB.out.cell (blk_lt HX.out)).trans (blk_cell HX.out 2)
              refine value_ (w1 := w') (v := .slice A2 l2.length c2) (by rfl) rfl ?_ ?_
              · go_simp
                (try simp only [i64_w])
                try (first | rfl | assumption)
              refine hK.out _ _ ⟨g32, g36, m2_, m6_, (by rw [ha.out]; exact putSel_upk 1 hb_ rfl rfl rfl), Q_HBB, Q_HQ32, fun h0_ => absurd ((hoff 6 (by kernel_rfl)).symm.trans h0_) (by decide), Q_X2_, fun h0_ => absurd ((hoff 6 (by kernel_rfl)).symm.trans h0_) (by decide)⟩
            refine steps_cons ?_ ?_
            · intro b a w' hI_ hb_ hon hoff
              refine ⟨_, rfl, fun K hK => ?_⟩
              obtain ⟨g32, g36, m2_, m6_, ha, Q_HBB, Q_HQ32, Q_HQ36, Q_X2_, Q_X6_⟩ := hI_
              replace ha := Aside0.mk ha
              have HBB := Aside0.mk Q_HBB
              refine goes_ Try.func39 (by kernel_rfl) rfl #[.func (.func 40) #[] #[]] (by rfl) rfl rfl (by first | (simp only [List.map_toArray, List.map_cons, List.map_nil, Act.eval, Array.getD_eq_getD_getElem?, Option.getD_some]; done) | (simp only [List.map_toArray, List.map_cons, List.map_nil, Act.eval, Array.getD_eq_getD_getElem?, Option.getD_some]; rfl)) ?_
              with_reducible refine (not_calls 40 _).mono ?_
              rintro e w3 ⟨g_, rfl, hq_, hl_, hb_2⟩
              refine ⟨_, rfl, ?_⟩
              refine hK.out _ _ ⟨g_, g36, (.func (.func 54) #[] #[.pointer (some ⟨g_, 0, none⟩)]), m6_, (by rw [ha.out]; exact putSel_upk 2 hb_ rfl rfl rfl), below_step HBB.out hb_2, fun _ => ⟨hl_, hq_⟩, fun h0_ => absurd ((hoff 6 (by kernel_rfl)).symm.trans h0_) (by decide), fun _ => rfl, fun h0_ => absurd ((hoff 6 (by kernel_rfl)).symm.trans h0_) (by decide)⟩
            refine steps_cons ?_ ?_
            · intro b a w' hI_ hb_ hon hoff
              refine ⟨_, rfl, fun K hK => ?_⟩
              obtain ⟨g32, g36, m2_, m6_, ha, Q_HBB, Q_HQ32, Q_HQ36, Q_X2_, Q_X6_⟩ := hI_
              have e31 : a.tmps[31]? = some (.slice A2 l2.length c2) := by rw [ha]; exact putSel_on (e := (1, 31, .slice A2 l2.length c2)) 1 rfl rfl (hon 1 (by kernel_rfl)) rfl
              have e32 : a.tmps[32]? = some (m2_) := by rw [ha]; exact putSel_on (e := (2, 32, m2_)) 2 rfl rfl (hon 2 (by kernel_rfl)) rfl
              rw [Q_X2_ (hon 2 (by kernel_rfl))] at e32
              replace ha := Aside0.mk ha
              have HBB := Aside0.mk Q_HBB
              have HQ32 := Aside0.mk (Q_HQ32 (hon 2 (by kernel_rfl)))
              refine goes_ Try.func38 (by kernel_rfl) rfl #[.slice A2 l2.length c2, .func (.func 54) #[] #[.pointer (some ⟨g32, 0, none⟩)]] (by rfl) rfl rfl (by first | (simp only [List.map_toArray, List.map_cons, List.map_nil, Act.eval, Array.getD_eq_getD_getElem?, Option.getD_some, e31, e32]; done) | (simp only [List.map_toArray, List.map_cons, List.map_nil, Act.eval, Array.getD_eq_getD_getElem?, Option.getD_some, e31, e32]; rfl)) ?_
              with_reducible refine (notTagB false l2 HT7.out A2 c2 g32 _ (Kd.C_below (Kd.C_below HR2.out HB.out) HBB.out) HZT.out HQ32.out.1 HQ32.out.2).mono ?_
              rintro e w3 ⟨rfl, hb_2⟩
              refine ⟨_, rfl, ?_⟩
              refine hK.out _ _ ⟨g32, g36, m2_, m6_, (by rw [ha.out]; exact putSel_upk 3 hb_ rfl rfl rfl), below_step HBB.out hb_2, fun _ => (fnAt_below HQ32.out hb_2), fun h0_ => absurd ((hoff 6 (by kernel_rfl)).symm.trans h0_) (by decide), Q_X2_, fun h0_ => absurd ((hoff 6 (by kernel_rfl)).symm.trans h0_) (by decide)⟩
            refine steps_cons ?_ ?_
            · intro b a w' hI_ hb_ hon hoff
              refine ⟨_, rfl, fun K hK => ?_⟩
              obtain ⟨g32, g36, m2_, m6_, ha, Q_HBB, Q_HQ32, Q_HQ36, Q_X2_, Q_X6_⟩ := hI_
              have e33 : a.tmps[33]? = some (.bool false) := by rw [ha]; exact putSel_on (e := (3, 33, .bool false)) 3 rfl rfl (hon 3 (by kernel_rfl)) rfl
              replace ha := Aside0.mk ha
              have HBB := Aside0.mk Q_HBB
              have HQ32 := Aside0.mk (Q_HQ32 (hon 2 (by kernel_rfl)))
              refine value_ (w1 := w') (v := .bool false) (by rfl) rfl ?_ ?_
              · go_simp
                (try simp only [i64_w])
                try (first | rfl | assumption)
              refine hK.out _ _ ⟨g32, g36, m2_, m6_, (by rw [ha.out]; exact putSel_upk 4 hb_ rfl rfl rfl), Q_HBB, Q_HQ32, fun h0_ => absurd ((hoff 6 (by kernel_rfl)).symm.trans h0_) (by decide), Q_X2_, fun h0_ => absurd ((hoff 6 (by kernel_rfl)).symm.trans h0_) (by decide)⟩
            refine steps_cons ?_ ?_
            · intro b a w' hI_ hb_ hon hoff
              refine ⟨_, rfl, fun K hK => ?_⟩
              obtain ⟨g32, g36, m2_, m6_, ha, Q_HBB, Q_HQ32, Q_HQ36, Q_X2_, Q_X6_⟩ := hI_
              have e3 : a.tmps[3]? = some (.slice A4 nm.length c4) := by rw [ha]; exact (putSel_off rfl).trans rfl
              have e34 : a.tmps[34]? = some (.bool false) := by rw [ha]; exact putSel_on (e := (4, 34, .bool false)) 4 rfl rfl (hon 4 (by kernel_rfl)) rfl
              replace ha := Aside0.mk ha
              have HBB := Aside0.mk Q_HBB
              have HQ32 := Aside0.mk (Q_HQ32 (hon 2 (by kernel_rfl)))
              refine value_ (w1 := w') (v := .slice A4 nm.length c4) (wanted_on rfl rfl rfl (e34.trans (by first | rfl | (simp [*]; done)))) rfl ?_ ?_
              · go_simp
                (try simp only [i64_w])
                try (first | rfl | assumption)
              refine hK.out _ _ ⟨g32, g36, m2_, m6_, (by rw [ha.out]; exact putSel_upk 5 hb_ rfl rfl rfl), Q_HBB, Q_HQ32, Q_HQ36, Q_X2_, Q_X6_⟩
            refine steps_cons ?_ ?_
            · intro b a w' hI_ hb_ hon hoff
              refine ⟨_, rfl, fun K hK => ?_⟩
              obtain ⟨g32, g36, m2_, m6_, ha, Q_HBB, Q_HQ32, Q_HQ36, Q_X2_, Q_X6_⟩ := hI_
              have e34 : a.tmps[34]? = some (.bool false) := by rw [ha]; exact putSel_on (e := (4, 34, .bool false)) 4 rfl rfl (hon 4 (by kernel_rfl)) rfl
              replace ha := Aside0.mk ha
              have HBB := Aside0.mk Q_HBB
              have HQ32 := Aside0.mk (Q_HQ32 (hon 2 (by kernel_rfl)))
              refine goes_ Try.func39 (by kernel_rfl) rfl #[.func (.func 37) #[] #[]] (wanted_on rfl rfl rfl (e34.trans (by first | rfl | (simp [*]; done)))) rfl rfl (by first | (simp only [List.map_toArray, List.map_cons, List.map_nil, Act.eval, Array.getD_eq_getD_getElem?, Option.getD_some, e34]; done) | (simp only [List.map_toArray, List.map_cons, List.map_nil, Act.eval, Array.getD_eq_getD_getElem?, Option.getD_some, e34]; rfl)) ?_
              with_reducible refine (not_calls 37 _).mono ?_
              rintro e w3 ⟨g_, rfl, hq_, hl_, hb_2⟩
              refine ⟨_, rfl, ?_⟩
              refine hK.out _ _ ⟨g32, g_, m2_, (.func (.func 54) #[] #[.pointer (some ⟨g_, 0, none⟩)]), (by rw [ha.out]; exact putSel_upk 6 hb_ rfl rfl rfl), below_step HBB.out hb_2, fun _ => (fnAt_below HQ32.out hb_2), fun _ => ⟨hl_, hq_⟩, Q_X2_, fun _ => rfl⟩
            refine steps_cons ?_ ?_
            · intro b a w' hI_ hb_ hon hoff
              refine ⟨_, rfl, fun K hK => ?_⟩
              obtain ⟨g32, g36, m2_, m6_, ha, Q_HBB, Q_HQ32, Q_HQ36, Q_X2_, Q_X6_⟩ := hI_
              have e35 : a.tmps[35]? = some (.slice A4 nm.length c4) := by rw [ha]; exact putSel_on (e := (5, 35, .slice A4 nm.length c4)) 5 rfl rfl (hon 5 (by kernel_rfl)) rfl
              have e36 : a.tmps[36]? = some (m6_) := by rw [ha]; exact putSel_on (e := (6, 36, m6_)) 6 rfl rfl (hon 6 (by kernel_rfl)) rfl
              rw [Q_X6_ (hon 6 (by kernel_rfl))] at e36
              have e34 : a.tmps[34]? = some (.bool false) := by rw [ha]; exact putSel_on (e := (4, 34, .bool false)) 4 rfl rfl (hon 4 (by kernel_rfl)) rfl
              replace ha := Aside0.mk ha
              have HBB := Aside0.mk Q_HBB
              have HQ32 := Aside0.mk (Q_HQ32 (hon 2 (by kernel_rfl)))
              have HQ36 := Aside0.mk (Q_HQ36 (hon 6 (by kernel_rfl)))
              refine goes_ Try.func38 (by kernel_rfl) rfl #[.slice A4 nm.length c4, .func (.func 54) #[] #[.pointer (some ⟨g36, 0, none⟩)]] (wanted_on rfl rfl rfl (e34.trans (by first | rfl | (simp [*]; done)))) rfl rfl (by first | (simp only [List.map_toArray, List.map_cons, List.map_nil, Act.eval, Array.getD_eq_getD_getElem?, Option.getD_some, e35, e36, e34]; done) | (simp only [List.map_toArray, List.map_cons, List.map_nil, Act.eval, Array.getD_eq_getD_getElem?, Option.getD_some, e35, e36, e34]; rfl)) ?_
              with_reducible refine (notNameB true nm HF7.out A4 c4 g36 _ (Kd.C_below HR4.out HBB.out) HZF.out HQ36.out.1 HQ36.out.2).mono ?_
              rintro e w3 ⟨rfl, hb_2⟩
              refine ⟨_, rfl, ?_⟩
              refine hK.out _ _ ⟨g32, g36, m2_, m6_, (by rw [ha.out]; exact putSel_upk 7 hb_ rfl rfl rfl), below_step HBB.out hb_2, fun _ => (fnAt_below HQ32.out hb_2), fun _ => (fnAt_below HQ36.out hb_2), Q_X2_, Q_X6_⟩
            refine steps_cons ?_ ?_
            · intro b a w' hI_ hb_ hon hoff
              refine ⟨_, rfl, fun K hK => ?_⟩
              obtain ⟨g32, g36, m2_, m6_, ha, Q_HBB, Q_HQ32, Q_HQ36, Q_X2_, Q_X6_⟩ := hI_
              have e34 : a.tmps[34]? = some (.bool false) := by rw [ha]; exact putSel_on (e := (4, 34, .bool false)) 4 rfl rfl (hon 4 (by kernel_rfl)) rfl
              have e37 : a.tmps[37]? = some (.bool true) := by rw [ha]; exact putSel_on (e := (7, 37, .bool true)) 7 rfl rfl (hon 7 (by kernel_rfl)) rfl
              replace ha := Aside0.mk ha
              have HBB := Aside0.mk Q_HBB
              have HQ32 := Aside0.mk (Q_HQ32 (hon 2 (by kernel_rfl)))
              have HQ36 := Aside0.mk (Q_HQ36 (hon 6 (by kernel_rfl)))
              refine value_ (w1 := w') (v := .bool true) (by rfl) rfl ?_ ?_
              · go_simp
                (try simp only [i64_w])
                try (first | rfl | assumption)
              refine hK.out _ _ ⟨g32, g36, m2_, m6_, (by rw [ha.out]; exact putSel_upk 8 hb_ rfl rfl rfl), Q_HBB, Q_HQ32, Q_HQ36, Q_X2_, Q_X6_⟩
            refine steps_cons ?_ ?_
            · intro b a w' hI_ hb_ hon hoff
              refine ⟨_, rfl, fun K hK => ?_⟩
              obtain ⟨g32, g36, m2_, m6_, ha, Q_HBB, Q_HQ32, Q_HQ36, Q_X2_, Q_X6_⟩ := hI_
              have e38 : a.tmps[38]? = some (.bool true) := by rw [ha]; exact putSel_on (e := (8, 38, .bool true)) 8 rfl rfl (hon 8 (by kernel_rfl)) rfl
              replace ha := Aside0.mk ha
              have HBB := Aside0.mk Q_HBB
              have HQ32 := Aside0.mk (Q_HQ32 (hon 2 (by kernel_rfl)))
              have HQ36 := Aside0.mk (Q_HQ36 (hon 6 (by kernel_rfl)))
              refine value_ (w1 := w') (v := .bool true) (by rfl) rfl ?_ ?_
              · go_simp
                (try simp only [i64_w])
                try (first | rfl | assumption)
              refine hK.out _ _ ⟨g32, g36, m2_, m6_, (by rw [ha.out]; exact putSel_upk 9 hb_ rfl rfl rfl), Q_HBB, Q_HQ32, Q_HQ36, Q_X2_, Q_X6_⟩
            exact steps_nil
          rintro b a wz hall ⟨g32, g36, m2_, m6_, ha, Q_HBB, Q_HQ32, Q_HQ36, Q_X2_, Q_X6_⟩
          clear HBB
          have hb0_ := hall 0 (by kernel_rfl)
          have hb1_ := hall 1 (by kernel_rfl)
          have hb2_ := hall 2 (by kernel_rfl)
          have hb3_ := hall 3 (by kernel_rfl)
          have hb4_ := hall 4 (by kernel_rfl)
          have hb5_ := hall 5 (by kernel_rfl)
          have hb6_ := hall 6 (by kernel_rfl)
          have hb7_ := hall 7 (by kernel_rfl)
          have hb8_ := hall 8 (by kernel_rfl)
          have hb9_ := hall 9 (by kernel_rfl)
          subst ha
          obtain rfl := Q_X2_ hb2_
          obtain rfl := Q_X6_ hb6_
          simp only [putSel, hb0_, hb1_, hb2_, hb3_, hb4_, hb5_, hb6_, hb7_, hb8_, hb9_, if_true, Act.put, List.setIfInBounds_toArray, List.set_cons_zero, List.set_cons_succ]
          have HBB := Aside0.mk Q_HBB
          clear Q_HBB
          have HQ32 := Aside0.mk (Q_HQ32 hb2_)
          clear Q_HQ32
          have HQ36 := Aside0.mk (Q_HQ36 hb6_)
          clear Q_HQ36
          clear hall hb0_ hb1_ hb2_ hb3_ hb4_ hb5_ hb6_ hb7_ hb8_ hb9_
          go_wp2
          go_ret
          exact ⟨ret_i64 HG.out.symm, below_step HB.out HBB.out⟩
        | false =>
          have HF7 := Aside0.mk h8
          have H56 := Aside0.mk (H34.out.trans (if_neg (by rw [h7, h8]; simp)))
          clear H34 h7 h8
          refine start_ (n := 10) (S := fun w' => True) (ds := []) #[false, false, false, false, false, false, false, false, false, false] (by kernel_rfl) rfl rfl trivial (fun hHeld => ?_); refine with_tabW D22.tab7 D22.bits7 (fun HT_ HW_ => ?_)
          refine inv_at [0, 1, 2, 3, 4, 5, 6, 7, 8, 9] (fun a0_ b a w' => ∃ (g32 : Nat) (g36 : Nat) (m2_ : Value) (m6_ : Value), a = putSel a0_ b [(0, 30, .pointer (some ⟨g, 2, none⟩)), (1, 31, .slice A2 l2.length c2), (2, 32, m2_), (3, 33, .bool false), (4, 34, .bool false), (5, 35, .slice A4 nm.length c4), (6, 36, m6_), (7, 37, .bool false), (8, 38, .bool false), (9, 29, .bool false)] ∧ (Below w5.heap.size w5 w') ∧ (b 2 = true → (g32 < w'.heap.size ∧ w'.cell? ⟨g32, 0, none⟩ = some (.func (.func 40) #[] #[]))) ∧ (b 6 = true → (g36 < w'.heap.size ∧ w'.cell? ⟨g36, 0, none⟩ = some (.func (.func 37) #[] #[]))) ∧ (b 2 = true → (m2_ : Value) = .func (.func 54) #[] #[.pointer (some ⟨g32, 0, none⟩)]) ∧ (b 6 = true → (m6_ : Value) = .func (.func 54) #[] #[.pointer (some ⟨g36, 0, none⟩)])) HT_.out HW_.out (by kernel_rfl) (by kernel_rfl) ?_ ?_ ?_
          · exact ⟨0, 0, .bool false, .bool false, by simp only [putSel, Bool.false_eq_true, if_false], HBB.out, fun h_ => absurd h_ (by decide), fun h_ => absurd h_ (by decide), fun h_ => absurd h_ (by decide), fun h_ => absurd h_ (by decide)⟩
          · clear HT_ HW_ hHeld
            clear HBB
            refine steps_cons ?_ ?_
            · intro b a w' hI_ hb_ hon hoff
              refine ⟨_, rfl, fun K hK => ?_⟩
              obtain ⟨g32, g36, m2_, m6_, ha, Q_HBB, Q_HQ32, Q_HQ36, Q_X2_, Q_X6_⟩ := hI_
              have e1 : a.tmps[1]? = some (.pointer (some ⟨g, 0, none⟩)) := by rw [ha]; exact (putSel_off rfl).trans rfl
              replace ha := Aside0.mk ha
              have HBB := Aside0.mk Q_HBB
              refine value_ (w1 := w') (v := .pointer (some ⟨g, 2, none⟩)) (by rfl) rfl ?_ ?_
              · go_simp
                (try simp only [i64_w])
                try (first | rfl | assumption)
              refine hK.out _ _ ⟨g32, g36, m2_, m6_, (by rw [ha.out]; exact putSel_upk 0 hb_ rfl rfl rfl), Q_HBB, Q_HQ32, fun h0_ => absurd ((hoff 6 (by kernel_rfl)).symm.trans h0_) (by decide), Q_X2_, fun h0_ => absurd ((hoff 6 (by kernel_rfl)).symm.trans h0_) (by decide)⟩
            refine steps_cons ?_ ?_
            · intro b a w' hI_ hb_ hon hoff
              refine ⟨_, rfl, fun K hK => ?_⟩
              obtain ⟨g32, g36, m2_, m6_, ha, Q_HBB, Q_HQ32, Q_HQ36, Q_X2_, Q_X6_⟩ := hI_
              have e30 : a.tmps[30]? = some (.pointer (some ⟨g, 2, none⟩)) := by rw [ha]; exact putSel_on (e := (0, 30, .pointer (some ⟨g, 2, none⟩))) 0 rfl rfl (hon 0 (by kernel_rfl)) rfl
              replace ha := Aside0.mk ha
              have HBB := Aside0.mk Q_HBB
              have hx2 := (HBB.out.cell (blk_lt HX.out)).trans (blk_cell HX.out 2)
              refine value_ (w1 := w') (v := .slice A2 l2.length c2) (by rfl) rfl ?_ ?_
              · go_simp
                (try simp only [i64_w])
                try (first | rfl | assumption)
              refine hK.out _ _ ⟨g32, g36, m2_, m6_, (by rw [ha.out]; exact putSel_upk 1 hb_ rfl rfl rfl), Q_HBB, Q_HQ32, fun h0_ => absurd ((hoff 6 (by kernel_rfl)).symm.trans h0_) (by decide), Q_X2_, fun h0_ => absurd ((hoff 6 (by kernel_rfl)).symm.trans h0_) (by decide)⟩
            refine steps_cons ?_ ?_
            · intro b a w' hI_ hb_ hon hoff
              refine ⟨_, rfl, fun K hK => ?_⟩
              obtain ⟨g32, g36, m2_, m6_, ha, Q_HBB, Q_HQ32, Q_HQ36, Q_X2_, Q_X6_⟩ := hI_
              replace ha := Aside0.mk ha
              have HBB := Aside0.mk Q_HBB
              refine goes_ Try.func39 (by kernel_rfl) rfl #[.func (.func 40) #[] #[]] (by rfl) rfl rfl (by first | (simp only [List.map_toArray, List.map_cons, List.map_nil, Act.eval, Array.getD_eq_getD_getElem?, Option.getD_some]; done) | (simp only [List.map_toArray, List.map_cons, List.map_nil, Act.eval, Array.getD_eq_getD_getElem?, Option.getD_some]; rfl)) ?_
              with_reducible refine (not_calls 40 _).mono ?_
              rintro e w3 ⟨g_, rfl, hq_, hl_, hb_2⟩
              refine ⟨_, rfl, ?_⟩
              refine hK.out _ _ ⟨g_, g36, (.func (.func 54) #[] #[.pointer (some ⟨g_, 0, none⟩)]), m6_, (by rw [ha.out]; exact putSel_upk 2 hb_ rfl rfl rfl), below_step HBB.out hb_2, fun _ => ⟨hl_, hq_⟩, fun h0_ => absurd ((hoff 6 (by kernel_rfl)).symm.trans h0_) (by decide), fun _ => rfl, fun h0_ => absurd ((hoff 6 (by kernel_rfl)).symm.trans h0_) (by decide)⟩
            refine steps_cons ?_ ?_
            · intro b a w' hI_ hb_ hon hoff
              refine ⟨_, rfl, fun K hK => ?_⟩
              obtain ⟨g32, g36, m2_, m6_, ha, Q_HBB, Q_HQ32, Q_HQ36, Q_X2_, Q_X6_⟩ := hI_
              have e31 : a.tmps[31]? = some (.slice A2 l2.length c2) := by rw [ha]; exact putSel_on (e := (1, 31, .slice A2 l2.length c2)) 1 rfl rfl (hon 1 (by kernel_rfl)) rfl
              have e32 : a.tmps[32]? = some (m2_) := by rw [ha]; exact putSel_on (e := (2, 32, m2_)) 2 rfl rfl (hon 2 (by kernel_rfl)) rfl
              rw [Q_X2_ (hon 2 (by kernel_rfl))] at e32
              replace ha := Aside0.mk ha
              have HBB := Aside0.mk Q_HBB
              have HQ32 := Aside0.mk (Q_HQ32 (hon 2 (by kernel_rfl)))
              refine goes_ Try.func38 (by kernel_rfl) rfl #[.slice A2 l2.length c2, .func (.func 54) #[] #[.pointer (some ⟨g32, 0, none⟩)]] (by rfl) rfl rfl (by first | (simp only [List.map_toArray, List.map_cons, List.map_nil, Act.eval, Array.getD_eq_getD_getElem?, Option.getD_some, e31, e32]; done) | (simp only [List.map_toArray, List.map_cons, List.map_nil, Act.eval, Array.getD_eq_getD_getElem?, Option.getD_some, e31, e32]; rfl)) ?_
              with_reducible refine (notTagB false l2 HT7.out A2 c2 g32 _ (Kd.C_below (Kd.C_below HR2.out HB.out) HBB.out) HZT.out HQ32.out.1 HQ32.out.2).mono ?_
              rintro e w3 ⟨rfl, hb_2⟩
              refine ⟨_, rfl, ?_⟩
              refine hK.out _ _ ⟨g32, g36, m2_, m6_, (by rw [ha.out]; exact putSel_upk 3 hb_ rfl rfl rfl), below_step HBB.out hb_2, fun _ => (fnAt_below HQ32.out hb_2), fun h0_ => absurd ((hoff 6 (by kernel_rfl)).symm.trans h0_) (by decide), Q_X2_, fun h0_ => absurd ((hoff 6 (by kernel_rfl)).symm.trans h0_) (by decide)⟩
            refine steps_cons ?_ ?_
            · intro b a w' hI_ hb_ hon hoff
              refine ⟨_, rfl, fun K hK => ?_⟩
              obtain ⟨g32, g36, m2_, m6_, ha, Q_HBB, Q_HQ32, Q_HQ36, Q_X2_, Q_X6_⟩ := hI_
              have e33 : a.tmps[33]? = some (.bool false) := by rw [ha]; exact putSel_on (e := (3, 33, .bool false)) 3 rfl rfl (hon 3 (by kernel_rfl)) rfl
              replace ha := Aside0.mk ha
              have HBB := Aside0.mk Q_HBB
              have HQ32 := Aside0.mk (Q_HQ32 (hon 2 (by kernel_rfl)))
              refine value_ (w1 := w') (v := .bool false) (by rfl) rfl ?_ ?_
              · go_simp
                (try simp only [i64_w])
                try (first | rfl | assumption)
              refine hK.out _ _ ⟨g32, g36, m2_, m6_, (by rw [ha.out]; exact putSel_upk 4 hb_ rfl rfl rfl), Q_HBB, Q_HQ32, fun h0_ => absurd ((hoff 6 (by kernel_rfl)).symm.trans h0_) (by decide), Q_X2_, fun h0_ => absurd ((hoff 6 (by kernel_rfl)).symm.trans h0_) (by decide)⟩
            refine steps_cons ?_ ?_
            · intro b a w' hI_ hb_ hon hoff
              refine ⟨_, rfl, fun K hK => ?_⟩
              obtain ⟨g32, g36, m2_, m6_, ha, Q_HBB, Q_HQ32, Q_HQ36, Q_X2_, Q_X6_⟩ := hI_
              have e3 : a.tmps[3]? = some (.slice A4 nm.length c4) := by rw [ha]; exact (putSel_off rfl).trans rfl
              have e34 : a.tmps[34]? = some (.bool false) := by rw [ha]; exact putSel_on (e := (4, 34, .bool false)) 4 rfl rfl (hon 4 (by kernel_rfl)) rfl
              replace ha := Aside0.mk ha
              have HBB := Aside0.mk Q_HBB
              have HQ32 := Aside0.mk (Q_HQ32 (hon 2 (by kernel_rfl)))
              refine value_ (w1 := w') (v := .slice A4 nm.length c4) (wanted_on rfl rfl rfl (e34.trans (by first | rfl | (simp [*]; done)))) rfl ?_ ?_
              · go_simp
                (try simp only [i64_w])
                try (first | rfl | assumption)
              refine hK.out _ _ ⟨g32, g36, m2_, m6_, (by rw [ha.out]; exact putSel_upk 5 hb_ rfl rfl rfl), Q_HBB, Q_HQ32, Q_HQ36, Q_X2_, Q_X6_⟩
            refine steps_cons ?_ ?_
            · intro b a w' hI_ hb_ hon hoff
              refine ⟨_, rfl, fun K hK => ?_⟩
              obtain ⟨g32, g36, m2_, m6_, ha, Q_HBB, Q_HQ32, Q_HQ36, Q_X2_, Q_X6_⟩ := hI_
              have e34 : a.tmps[34]? = some (.bool false) := by rw [ha]; exact putSel_on (e := (4, 34, .bool false)) 4 rfl rfl (hon 4 (by kernel_rfl)) rfl
              replace ha := Aside0.mk ha
              have HBB := Aside0.mk Q_HBB
              have HQ32 := Aside0.mk (Q_HQ32 (hon 2 (by kernel_rfl)))
              refine goes_ Try.func39 (by kernel_rfl) rfl #[.func (.func 37) #[] #[]] (wanted_on rfl rfl rfl (e34.trans (by first | rfl | (simp [*]; done)))) rfl rfl (by first | (simp only [List.map_toArray, List.map_cons, List.map_nil, Act.eval, Array.getD_eq_getD_getElem?, Option.getD_some, e34]; done) | (simp only [List.map_toArray, List.map_cons, List.map_nil, Act.eval, Array.getD_eq_getD_getElem?, Option.getD_some, e34]; rfl)) ?_
              with_reducible refine (not_calls 37 _).mono ?_
              rintro e w3 ⟨g_, rfl, hq_, hl_, hb_2⟩
              refine ⟨_, rfl, ?_⟩
              refine hK.out _ _ ⟨g32, g_, m2_, (.func (.func 54) #[] #[.pointer (some ⟨g_, 0, none⟩)]), (by rw [ha.out]; exact putSel_upk 6 hb_ rfl rfl rfl), below_step HBB.out hb_2, fun _ => (fnAt_below HQ32.out hb_2), fun _ => ⟨hl_, hq_⟩, Q_X2_, fun _ => rfl⟩
            refine steps_cons ?_ ?_
            · intro b a w' hI_ hb_ hon hoff
              refine ⟨_, rfl, fun K hK => ?_⟩
              obtain ⟨g32, g36, m2_, m6_, ha, Q_HBB, Q_HQ32, Q_HQ36, Q_X2_, Q_X6_⟩ := hI_
              have e35 : a.tmps[35]? = some (.slice A4 nm.length c4) := by rw [ha]; exact putSel_on (e := (5, 35, .slice A4 nm.length c4)) 5 rfl rfl (hon 5 (by kernel_rfl)) rfl
              have e36 : a.tmps[36]? = some (m6_) := by rw [ha]; exact putSel_on (e := (6, 36, m6_)) 6 rfl rfl (hon 6 (by kernel_rfl)) rfl
              rw [Q_X6_ (hon 6 (by kernel_rfl))] at e36
              have e34 : a.tmps[34]? = some (.bool false) := by rw [ha]; exact putSel_on (e := (4, 34, .bool false)) 4 rfl rfl (hon 4 (by kernel_rfl)) rfl
              replace ha := Aside0.mk ha
              have HBB := Aside0.mk Q_HBB
              have HQ32 := Aside0.mk (Q_HQ32 (hon 2 (by kernel_rfl)))
              have HQ36 := Aside0.mk (Q_HQ36 (hon 6 (by kernel_rfl)))
              refine goes_ Try.func38 (by kernel_rfl) rfl #[.slice A4 nm.length c4, .func (.func 54) #[] #[.pointer (some ⟨g36, 0, none⟩)]] (wanted_on rfl rfl rfl (e34.trans (by first | rfl | (simp [*]; done)))) rfl rfl (by first | (simp only [List.map_toArray, List.map_cons, List.map_nil, Act.eval, Array.getD_eq_getD_getElem?, Option.getD_some, e35, e36, e34]; done) | (simp only [List.map_toArray, List.map_cons, List.map_nil, Act.eval, Array.getD_eq_getD_getElem?, Option.getD_some, e35, e36, e34]; rfl)) ?_
              with_reducible refine (notNameB false nm HF7.out A4 c4 g36 _ (Kd.C_below HR4.out HBB.out) HZF.out HQ36.out.1 HQ36.out.2).mono ?_
              rintro e w3 ⟨rfl, hb_2⟩
              refine ⟨_, rfl, ?_⟩
              refine hK.out _ _ ⟨g32, g36, m2_, m6_, (by rw [ha.out]; exact putSel_upk 7 hb_ rfl rfl rfl), below_step HBB.out hb_2, fun _ => (fnAt_below HQ32.out hb_2), fun _ => (fnAt_below HQ36.out hb_2), Q_X2_, Q_X6_⟩
            refine steps_cons ?_ ?_
            · intro b a w' hI_ hb_ hon hoff
              refine ⟨_, rfl, fun K hK => ?_⟩
              obtain ⟨g32, g36, m2_, m6_, ha, Q_HBB, Q_HQ32, Q_HQ36, Q_X2_, Q_X6_⟩ := hI_
              have e34 : a.tmps[34]? = some (.bool false) := by rw [ha]; exact putSel_on (e := (4, 34, .bool false)) 4 rfl rfl (hon 4 (by kernel_rfl)) rfl
              have e37 : a.tmps[37]? = some (.bool false) := by rw [ha]; exact putSel_on (e := (7, 37, .bool false)) 7 rfl rfl (hon 7 (by kernel_rfl)) rfl
              replace ha := Aside0.mk ha
              have HBB := Aside0.mk Q_HBB
              have HQ32 := Aside0.mk (Q_HQ32 (hon 2 (by kernel_rfl)))
              have HQ36 := Aside0.mk (Q_HQ36 (hon 6 (by kernel_rfl)))
              refine value_ (w1 := w') (v := .bool false) (by rfl) rfl ?_ ?_
              · go_simp
                (try simp only [i64_w])
                try (first | rfl | assumption)
              refine hK.out _ _ ⟨g32, g36, m2_, m6_, (by rw [ha.out]; exact putSel_upk 8 hb_ rfl rfl rfl), Q_HBB, Q_HQ32, Q_HQ36, Q_X2_, Q_X6_⟩
            refine steps_cons ?_ ?_
            · intro b a w' hI_ hb_ hon hoff
              refine ⟨_, rfl, fun K hK => ?_⟩
              obtain ⟨g32, g36, m2_, m6_, ha, Q_HBB, Q_HQ32, Q_HQ36, Q_X2_, Q_X6_⟩ := hI_
              have e38 : a.tmps[38]? = some (.bool false) := by rw [ha]; exact putSel_on (e := (8, 38, .bool false)) 8 rfl rfl (hon 8 (by kernel_rfl)) rfl
              replace ha := Aside0.mk ha
              have HBB := Aside0.mk Q_HBB
              have HQ32 := Aside0.mk (Q_HQ32 (hon 2 (by kernel_rfl)))
              have HQ36 := Aside0.mk (Q_HQ36 (hon 6 (by kernel_rfl)))
              refine value_ (w1 := w') (v := .bool false) (by rfl) rfl ?_ ?_
              · go_simp
                (try simp only [i64_w])
                try (first | rfl | assumption)
              refine hK.out _ _ ⟨g32, g36, m2_, m6_, (by rw [ha.out]; exact putSel_upk 9 hb_ rfl rfl rfl), Q_HBB, Q_HQ32, Q_HQ36, Q_X2_, Q_X6_⟩
            exact steps_nil
          rintro b a wz hall ⟨g32, g36, m2_, m6_, ha, Q_HBB, Q_HQ32, Q_HQ36, Q_X2_, Q_X6_⟩
          clear HBB
          have hb0_ := hall 0 (by kernel_rfl)
          have hb1_ := hall 1 (by kernel_rfl)
          have hb2_ := hall 2 (by kernel_rfl)
          have hb3_ := hall 3 (by kernel_rfl)
          have hb4_ := hall 4 (by kernel_rfl)
          have hb5_ := hall 5 (by kernel_rfl)
          have hb6_ := hall 6 (by kernel_rfl)
          have hb7_ := hall 7 (by kernel_rfl)
          have hb8_ := hall 8 (by kernel_rfl)
          have hb9_ := hall 9 (by kernel_rfl)
          subst ha
          obtain rfl := Q_X2_ hb2_
          obtain rfl := Q_X6_ hb6_
          simp only [putSel, hb0_, hb1_, hb2_, hb3_, hb4_, hb5_, hb6_, hb7_, hb8_, hb9_, if_true, Act.put, List.setIfInBounds_toArray, List.set_cons_zero, List.set_cons_succ]
          have HBB := Aside0.mk Q_HBB
          clear Q_HBB
          have HQ32 := Aside0.mk (Q_HQ32 hb2_)
          clear Q_HQ32
          have HQ36 := Aside0.mk (Q_HQ36 hb6_)
          clear Q_HQ36
          clear hall hb0_ hb1_ hb2_ hb3_ hb4_ hb5_ hb6_ hb7_ hb8_ hb9_
          have hb := HBB.out; have n1_ := Aside0.mk (below_step HB.out hb); have n2_ := Aside0.mk (blk_below HX.out hb); clear HB HX; have HB := n1_; have HX := n2_; clear n1_ n2_; have n1_ := Aside0.mk (Kd.C_below HR4.out hb); clear HR4; have HR4 := n1_; clear n1_ hb; clear hx0 hx1 hx2 hx3; have hx0 := blk_cell HX.out 0; have hx1 := blk_cell HX.out 1; have hx2 := blk_cell HX.out 2; have hx3 := blk_cell HX.out 3; clear HBB
          clear HT7 HF7
          go_wp2_with fail
          refine (event_rise.calls (l2.length + 1) A2 c2 l2 (riseB l2) wz (Kd.C_below HR2.out HB.out) HC2.out (rise_val l2 hm2)).mono ?_
          rintro e w6 ⟨rfl, hd⟩
          have hb := hd.below
          clear hd
          have n1_ := Aside0.mk (below_step HB.out hb); have n2_ := Aside0.mk (blk_below HX.out hb); clear HB HX; have HB := n1_; have HX := n2_; clear n1_ n2_; have n1_ := Aside0.mk (Kd.C_below HR4.out hb); clear HR4; have HR4 := n1_; clear n1_ hb; clear hx0 hx1 hx2 hx3; have hx0 := blk_cell HX.out 0; have hx1 := blk_cell HX.out 1; have hx2 := blk_cell HX.out 2; have hx3 := blk_cell HX.out 3
          cases hq1 : riseB l2 with
          | false =>
            have HG := Aside0.mk (H56.out.trans (if_pos (.inl hq1)))
            clear hq1
            go_wp2
            go_ret
            exact ⟨ret_i64 HG.out.symm, HB.out⟩
          | true =>
          go_wp2_with fail
          refine (event_rise.calls (nm.length + 1) A4 c4 nm (riseB nm) w6 HR4.out HC4.out (rise_val nm (Kd.C_max HR4.out))).mono ?_
          rintro e w7 ⟨rfl, hd⟩
          have hb := hd.below
          clear hd
          have n1_ := Aside0.mk (below_step HB.out hb); have n2_ := Aside0.mk (blk_below HX.out hb); clear HB HX; have HB := n1_; have HX := n2_; clear n1_ n2_; have n1_ := Aside0.mk (Kd.C_below HR4.out hb); clear HR4; have HR4 := n1_; clear n1_ hb; clear hx0 hx1 hx2 hx3; have hx0 := blk_cell HX.out 0; have hx1 := blk_cell HX.out 1; have hx2 := blk_cell HX.out 2; have hx3 := blk_cell HX.out 3
          cases hq2 : riseB nm with
          | false =>
            have HG := Aside0.mk (H56.out.trans (if_pos (.inr (.inl hq2))))
            clear hq1 hq2
            go_wp2
            go_ret
            exact ⟨ret_i64 HG.out.symm, HB.out⟩
          | true =>
          go_wp2_with fail
          refine (overC l3 A3 c3 w7 (Kd.C_below HR3.out HB.out)).mono ?_
          rintro e w8 ⟨rfl, hb⟩
          have n1_ := Aside0.mk (below_step HB.out hb); have n2_ := Aside0.mk (blk_below HX.out hb); clear HB HX; have HB := n1_; have HX := n2_; clear n1_ n2_; have n1_ := Aside0.mk (Kd.C_below HR4.out hb); clear HR4; have HR4 := n1_; clear n1_ hb; clear hx0 hx1 hx2 hx3; have hx0 := blk_cell HX.out 0; have hx1 := blk_cell HX.out 1; have hx2 := blk_cell HX.out 2; have hx3 := blk_cell HX.out 3
          cases hq3 : l3.any overB with
          | true =>
            have HG := Aside0.mk (H56.out.trans (if_pos (.inr (.inr hq3))))
            clear hq1 hq2 hq3
            go_wp2
            go_ret
            exact ⟨ret_i64 HG.out.symm, HB.out⟩
          | false =>
            have HG := Aside0.mk (H56.out.trans (if_neg (by rw [hq1, hq2, hq3]; simp)))
            clear hq1 hq2 hq3
            go_wp2
            go_ret
            exact ⟨ret_i64 HG.out.symm, HB.out⟩
end Go.Proofs.Ytafeakcajhhkoaa.Nam
namespace Go.Proofs.Ytafeakcajhhkoaa.Prt
open Go.RowKit Go.Proofs.YtafeakcajhhkoaaW.PrintWords Go.Proofs.YtafeakcajhhkoaaW.PrintLast Go.Proofs.YtafeakcajhhkoaaW.PrintMore Go.Proofs.Ytafeakcajhhkoaa.Num Go.Proofs.Ytafeakcajhhkoaa.Nam
set_option linter.unusedVariables false
set_option linter.unusedSimpArgs false

/-- No text of these is longer than any can be. -/
def fitE (s t : ByteArray) (tags : List ByteArray) (fl : List S50) : Bool := decide (s.size ≤ 9223372036854775807) && decide (t.size ≤ 9223372036854775807) && (tags.all fun x => decide (x.size ≤ 9223372036854775807)) && (fl.all fun x => decide (x.f0.size ≤ 9223372036854775807)) && decide (fl.length < 8796093022208)
theorem fitE_iff {s t : ByteArray} {tags : List ByteArray} {fl : List S50} : fitE s t tags fl = true ↔ s.size ≤ 9223372036854775807 ∧ t.size ≤ 9223372036854775807 ∧ (∀ x ∈ tags, x.size ≤ 9223372036854775807) ∧ (∀ x ∈ fl, x.f0.size ≤ 9223372036854775807) ∧ fl.length < 8796093022208 := by
  unfold fitE
  simp only [Bool.and_eq_true, decide_eq_true_eq, List.all_eq_true, and_assoc]
def event_May.f (a0_0 : ByteArray) (a0_1 : ByteArray) (l0_2 : List ByteArray) (l0_3 : List (S50)) : Option (Int) := if fitE a0_0 a0_1 l0_2 l0_3 = true then some (mayE a0_0 a0_1 l0_2 l0_3) else none
theorem event_May.calls (a0_0 : ByteArray) (a0_1 : ByteArray) (A0_2 : Option Addr) (c0_2 : Nat) (l0_2 : List ByteArray) (A0_3 : Option Addr) (c0_3 : Nat) (l0_3 : List (S50)) (r : Int) (w : World) (hr0_2 : Kd.C Kd.string w A0_2 l0_2.length l0_2) (hc0_2 : l0_2.length ≤ c0_2) (hr0_3 : Kd.C k50 w A0_3 l0_3.length l0_3) (hc0_3 : l0_3.length ≤ c0_3) (h : event_May.f a0_0 a0_1 l0_2 l0_3 = some r) :
    Calls Try.prog 22 #[.agg #[.string a0_0, .string a0_1, .slice A0_2 l0_2.length c0_2, .slice A0_3 l0_3.length c0_3]] w fun e w' => e = .returned (.int .i64 r) ∧ Below w.heap.size w w' := by
  unfold event_May.f at h
  by_cases hf : fitE a0_0 a0_1 l0_2 l0_3 = true
  · rw [if_pos hf] at h
    obtain rfl := Option.some.inj h
    obtain ⟨h1, h2, h3, h4, h5⟩ := fitE_iff.1 hf
    exact eventMay_calls a0_0 a0_1 A0_2 A0_3 c0_2 c0_3 l0_2 l0_3 w hr0_2 hc0_2 hr0_3 hc0_3 h1 h2 h3 h4 h5
  · rw [if_neg hf] at h; cases h
end Go.Proofs.Ytafeakcajhhkoaa.Prt
namespace Go.Proofs.Ytafeakcajhhkoaa.Num
open Go.RowKit Go.Proofs.YtafeakcajhhkoaaW.PrintWords Go.Proofs.YtafeakcajhhkoaaW.PrintLast Go.Proofs.YtafeakcajhhkoaaW.PrintMore Go.Proofs.Ytafeakcajhhkoaa.Prt Go.Proofs.Ytafeakcajhhkoaa.Nam
set_option linter.unusedVariables false
set_option linter.unusedSimpArgs false

/-- So many texts taken. -/
def takeTs : Nat → List Int → Bool → List ByteArray × List Int × Bool
  | 0, l, b => ([], l, b)
  | n + 1, l, b => ((takeTs n l b).1 ++ [textOf (takeTs n l b).2.1], aftT (takeTs n l b).2.1, badT (takeTs n l b).2.1 (takeTs n l b).2.2)
/-- So many fields taken. -/
def takeFs : Nat → List Int → Bool → List S50 × List Int × Bool
  | 0, l, b => ([], l, b)
  | n + 1, l, b => ((takeFs n l b).1 ++ [⟨textOf (takeFs n l b).2.1, numOf (aftT (takeFs n l b).2.1)⟩], aft (aftT (takeFs n l b).2.1), badOf (aftT (takeFs n l b).2.1) (badT (takeFs n l b).2.1 (takeFs n l b).2.2))
/-- An event taken: the event, the error, what is left, whether the reader is bad. -/
def takeE (l : List Int) (b : Bool) : S40 × Int × List Int × Bool :=
  let n := numOf (aftT (aftT l)); let l3 := aft (aftT (aftT l)); let b3 := badOf (aftT (aftT l)) (badT (aftT l) (badT l b))
  if n < 0 ∨ 6 < n then (z40, 2, l3, b3) else
  let q := takeTs n.toNat l3 b3; let m := numOf q.2.1; let l5 := aft q.2.1; let b5 := badOf q.2.1 q.2.2
  if m < 0 ∨ 4 < m then (z40, 2, l5, b5) else
  let r := takeFs m.toNat l5 b5
  if r.2.2 = true ∨ mayE (textOf l) (textOf (aftT l)) q.1 r.1 ≠ 0 then (z40, 2, r.2) else (⟨textOf l, textOf (aftT l), q.1, r.1⟩, 0, r.2)
theorem takeTs_len (l : List Int) (b : Bool) : ∀ n, (takeTs n l b).1.length = n
  | 0 => rfl
  | n + 1 => by simp only [takeTs, List.length_append, List.length_singleton, takeTs_len l b n]
theorem takeFs_len (l : List Int) (b : Bool) : ∀ n, (takeFs n l b).1.length = n
  | 0 => rfl
  | n + 1 => by simp only [takeFs, List.length_append, List.length_singleton, takeFs_len l b n]
theorem aft_len (l : List Int) (hb : isBytes l) : (aft l).length ≤ l.length := by
  unfold aft
  cases hd : dec l with
  | none => simp
  | some q =>
    obtain ⟨x, r⟩ := q
    have := (dec_sound hb hd).1
    rw [this]; simp
theorem aftT_len (l : List Int) (hb : isBytes l) : (aftT l).length ≤ l.length := by
  unfold aftT
  cases hd : decT l with
  | none => simp
  | some q =>
    obtain ⟨x, r⟩ := q
    have := (decT_sound hb hd).1
    rw [this]; simp
theorem textOf_size (l : List Int) (hb : isBytes l) : (textOf l).size ≤ l.length := by
  unfold textOf
  cases hd : decT l with
  | none => exact Nat.zero_le _
  | some q =>
    obtain ⟨x, r⟩ := q
    have h1 := (decT_sound hb hd).1
    have h2 : (strOfNums x).size = x.length := strOfNums_size' x
    show (strOfNums x).size ≤ _
    rw [h2, h1]; unfold encT; simp; omega
theorem takeTs_left (l : List Int) (b : Bool) (hb : isBytes l) : ∀ n, isBytes (takeTs n l b).2.1 ∧ (takeTs n l b).2.1.length ≤ l.length ∧ ∀ x ∈ (takeTs n l b).1, x.size ≤ l.length
  | 0 => ⟨hb, Nat.le_refl _, fun x hx => by simp [takeTs] at hx⟩
  | n + 1 => by
    obtain ⟨h1, h2, h3⟩ := takeTs_left l b hb n
    refine ⟨aftT_bytes h1, Nat.le_trans (aftT_len _ h1) h2, fun x hx => ?_⟩
    simp only [takeTs] at hx
    rcases List.mem_append.1 hx with hx | hx
    · exact h3 x hx
    · rw [List.mem_singleton.1 hx]; exact Nat.le_trans (textOf_size _ h1) h2
theorem takeFs_left (l : List Int) (b : Bool) (hb : isBytes l) : ∀ n, isBytes (takeFs n l b).2.1 ∧ (takeFs n l b).2.1.length ≤ l.length ∧ ∀ x ∈ (takeFs n l b).1, x.f0.size ≤ l.length
  | 0 => ⟨hb, Nat.le_refl _, fun x hx => by simp [takeFs] at hx⟩
  | n + 1 => by
    obtain ⟨h1, h2, h3⟩ := takeFs_left l b hb n
    have g1 := aftT_bytes h1
    refine ⟨aft_bytes g1, Nat.le_trans (aft_len _ g1) (Nat.le_trans (aftT_len _ h1) h2), fun x hx => ?_⟩
    simp only [takeFs] at hx
    rcases List.mem_append.1 hx with hx | hx
    · exact h3 x hx
    · rw [List.mem_singleton.1 hx]; exact Nat.le_trans (textOf_size _ h1) h2
/-- What a call leaves that was handed a reader. -/
def Out (w w' : World) (P : Nat → Prop) (g : Nat) (l : List Int) (b : Bool) : Prop := Rd 72 P w' g l b ∧ Below g w w' ∧ KeepBut w w' g none
theorem Out.of_Tk {w w0 w' : World} {P : Nat → Prop} {g E Rb : Nat} {l : List Int} {bad : Bool} {s t : ByteArray} {v2 v3 : Value} {tags : List ByteArray} {fl : List S50} (h : Tk w0 w' P g E Rb l bad s t v2 tags v3 fl) (hB : Below w.heap.size w w0) (hg : g < w.heap.size) : Out w w' P g l bad :=
  ⟨h.rd, (hB.mono (Nat.le_of_lt hg)).trans h.below, (KeepBut.of_below hB g none).trans h.keep (.inl rfl)⟩
theorem Out.set {w w' : World} {P : Nat → Prop} {g : Nat} {l : List Int} {bad : Bool} (h : Out w w' P g l bad) (hg : g < w.heap.size) (hP : ∀ k, P k → k < w.heap.size) {Q : Nat} (hQ : w.heap.size ≤ Q) (i : Nat) (u : Value) : Out w (w'.setCell ⟨Q, i, none⟩ u) P g l bad :=
  ⟨h.1.kept ((KeepBut.refl w' Q none).set_ i _) (by omega) (fun hp => by have := hP Q hp; omega), h.2.1.setCell (p := ⟨Q, i, none⟩) (by show g ≤ Q; omega) _, keep_far h.2.2 hQ _⟩
/-- What an event is that couldn't be taken. -/
theorem takeE_n {l : List Int} {b : Bool} (h : numOf (aftT (aftT l)) < 0 ∨ 6 < numOf (aftT (aftT l))) : takeE l b = (z40, 2, aft (aftT (aftT l)), badOf (aftT (aftT l)) (badT (aftT l) (badT l b))) := by
  unfold takeE; simp only; rw [if_pos h]
theorem takeE_m {l : List Int} {b : Bool} {q : List ByteArray × List Int × Bool} (h : ¬ (numOf (aftT (aftT l)) < 0 ∨ 6 < numOf (aftT (aftT l)))) (hq : takeTs (numOf (aftT (aftT l))).toNat (aft (aftT (aftT l))) (badOf (aftT (aftT l)) (badT (aftT l) (badT l b))) = q)
    (h2 : numOf q.2.1 < 0 ∨ 4 < numOf q.2.1) : takeE l b = (z40, 2, aft q.2.1, badOf q.2.1 q.2.2) := by
  unfold takeE; simp only; rw [if_neg h, hq, if_pos h2]
theorem takeE_r {l : List Int} {b : Bool} {q : List ByteArray × List Int × Bool} {r : List S50 × List Int × Bool} (h : ¬ (numOf (aftT (aftT l)) < 0 ∨ 6 < numOf (aftT (aftT l)))) (hq : takeTs (numOf (aftT (aftT l))).toNat (aft (aftT (aftT l))) (badOf (aftT (aftT l)) (badT (aftT l) (badT l b))) = q)
    (h2 : ¬ (numOf q.2.1 < 0 ∨ 4 < numOf q.2.1)) (hr : takeFs (numOf q.2.1).toNat (aft q.2.1) (badOf q.2.1 q.2.2) = r) :
    takeE l b = if r.2.2 = true ∨ mayE (textOf l) (textOf (aftT l)) q.1 r.1 ≠ 0 then (z40, 2, r.2) else (⟨textOf l, textOf (aftT l), q.1, r.1⟩, 0, r.2) := by
  unfold takeE; simp only; rw [if_neg h, hq, if_neg h2, hr]
theorem R_set4 {α : Type} {d : Kd α} {e N t E : Nat} {w : World} {v : Value} {l : List α} {cells : Array Value} (h : d.R e w N (fun _ => True) v l) (hb : w.heap[E]? = some (.cells cells t (0, 0))) (ht : ∀ q, q ∈ e :: d.E → q ≠ t) (u0 u1 u2 u3 : Value) : d.R e ((((w.setCell ⟨E, 0, none⟩ u0).setCell ⟨E, 1, none⟩ u1).setCell ⟨E, 2, none⟩ u2).setCell ⟨E, 3, none⟩ u3) N (fun _ => True) v l :=
  R_set (R_set (R_set (R_set h hb ht 0 u0) (blk_set hb 0 u0) ht 1 u1) (blk_set (blk_set hb 0 u0) 1 u1) ht 2 u2) (blk_set (blk_set (blk_set hb 0 u0) 1 u1) 2 u2) ht 3 u3
theorem take_start (w w0 : World) (P : Nat → Prop) (g : Nat) (l : List Int) (bad : Bool) (h0 : w0 = (w.alloc (.cells #[.pointer (some ⟨g, 0, none⟩)] 51)).alloc (.cells #[.string ⟨#[]⟩, .string ⟨#[]⟩, .slice none 0 0, .slice none 0 0] 40)) (hI : Rd 72 P w g l bad) (hb : isBytes l) (hP : ∀ k, P k → k < w.heap.size) :
    w0.heap.size = w.heap.size + 1 + 1 ∧ w0.heap[w.heap.size + 1]? = some (.cells #[.string ⟨#[]⟩, .string ⟨#[]⟩, .slice none 0 0, .slice none 0 0] 40) ∧ Below w.heap.size w w0 ∧ Tk w0 (w0.alloc (.cells #[.string ⟨#[]⟩, .string ⟨#[]⟩, .slice none 0 0, .slice none 0 0] 40)) P g (w.heap.size + 1 + 1) w.heap.size l bad ⟨#[]⟩ ⟨#[]⟩ (.slice none 0 0) [] (.slice none 0 0) [] := by
  have hz : w0.heap.size = w.heap.size + 1 + 1 := by rw [h0]; simp only [World.size_alloc]
  have hB : Below w.heap.size w w0 := by rw [h0]; exact below_alloc (below_alloc (Below.refl _ _) _) _
  have hq : w0.heap[w.heap.size + 1]? = some (.cells #[.string ⟨#[]⟩, .string ⟨#[]⟩, .slice none 0 0, .slice none 0 0] 40) := by
    rw [h0]
    have := heap_alloc_new (w.alloc (.cells #[.pointer (some ⟨g, 0, none⟩)] 51)) (.cells #[.string ⟨#[]⟩, .string ⟨#[]⟩, .slice none 0 0, .slice none 0 0] 40)
    rwa [World.size_alloc] at this
  have hr : w0.heap[w.heap.size]? = some (.cells #[.pointer (some ⟨g, 0, none⟩)] 51) := by rw [h0]; exact blk_alloc (heap_alloc_new w _) _
  have hE : (w0.alloc (.cells #[.string ⟨#[]⟩, .string ⟨#[]⟩, .slice none 0 0, .slice none 0 0] 40)).heap[w.heap.size + 1 + 1]? = some (.cells #[.string ⟨#[]⟩, .string ⟨#[]⟩, .slice none 0 0, .slice none 0 0] 40) := by rw [← hz]; exact heap_alloc_new w0 _
  have hlt := hI.lt
  have hb1 : Below w.heap.size w (w0.alloc (.cells #[.string ⟨#[]⟩, .string ⟨#[]⟩, .slice none 0 0, .slice none 0 0] 40)) := below_alloc hB _
  refine ⟨hz, hq, hB, hI.below hb1, hE, blk_alloc hr _, Kd.R_nil _ _ _ _ _, Kd.R_nil _ _ _ _ _, KeepBut.of_below (below_alloc (Below.refl _ _) _) g none, (below_alloc (Below.refl w0.heap.size w0) _).mono (by omega), by omega, by omega, by omega, fun k hk => by have := hP k hk; omega, hb⟩
theorem take_walk (P : Nat → Prop) (w : World) (g : Nat) (l : List Int) (bad : Bool) (hI : Rd 72 P w g l bad) (hb : isBytes l) (hP : ∀ k, P k → k < w.heap.size) (x : S40) (c : Int) (l' : List Int) (b' : Bool) (hx : takeE l bad = (x, c, l', b')) :
    Calls Try.prog 48 #[.pointer (some ⟨g, 0, none⟩)] w fun e w' => ∃ v2 v3, e = .returned (.tuple #[.agg #[.string x.f0, .string x.f1, v2, v3], .int .i64 c]) ∧ Kd.string.R 9 w' w.heap.size (fun _ => True) v2 x.f2 ∧ k50.R 50 w' w.heap.size (fun _ => True) v3 x.f3 ∧
      Rd 72 P w' g l' b' ∧ isBytes l' ∧ Below g w w' ∧ KeepBut w w' g none := by
  have HI := Aside0.mk hI
  have HBY := Aside0.mk hb
  have HP := Aside0.mk hP
  have HSZ := Aside0.mk (Nat.le_trans (textOf_size l hb) hI.len)
  have HSY := Aside0.mk (Nat.le_trans (textOf_size (aftT l) (aftT_bytes hb)) (Nat.le_trans (aftT_len l hb) hI.len))
  have HX := Aside0.mk hx
  have HB := Aside0.mk (Below.refl w.heap.size w)
  clear hI hb hP hx
  have hu40 := Try.underlying40
  go_enter Try.func48, Try.ntmps48
  go_upto_region 4 with (fail)
  obtain ⟨w0, hw0⟩ : ∃ w0, w0 = (w.alloc (.cells #[.pointer (some ⟨g, 0, none⟩)] 51)).alloc (.cells #[.string ⟨#[]⟩, .string ⟨#[]⟩, .slice none 0 0, .slice none 0 0] 40) := ⟨_, rfl⟩
  obtain ⟨hz, hq, hB, hT⟩ := take_start w w0 P g l bad hw0 HI.out HBY.out HP.out
  rw [← hw0]
  have HZ := Aside0.mk hz
  have HQ := Aside0.mk hq
  have HB0 := Aside0.mk hB
  have HT1 := Aside0.mk hT
  have HGW := Aside0.mk HI.out.lt
  clear HB HI HBY hw0 hz hq hB hT
  generalize w0.alloc (.cells #[.string ⟨#[]⟩, .string ⟨#[]⟩, .slice none 0 0, .slice none 0 0] 40) = w1 at HT1 ⊢
  obtain ⟨E, hE⟩ : ∃ E, E = w.heap.size + 1 + 1 := ⟨_, rfl⟩
  rw [← hE] at HT1 ⊢
  have HE := Aside0.mk hE
  obtain ⟨Q, hQ⟩ : ∃ Q, Q = w.heap.size + 1 := ⟨_, rfl⟩
  rw [← hQ] at HQ ⊢
  have HQE := Aside0.mk (show Q ≠ E by omega)
  have HQN := Aside0.mk (show Q < w0.heap.size ∧ w.heap.size ≤ Q by rw [HZ.out]; omega)
  obtain ⟨R, hR⟩ : ∃ R, R = w.heap.size := ⟨_, rfl⟩
  rw [← hR] at HT1 ⊢
  clear hE hQ hR
  have hr0 := blk_cell HT1.out.hR 0
  go_wp2_with fail
  refine (text_calls P w1 g l bad HT1.out.rd HT1.out.by_).mono ?_
  rintro e w2 ⟨rfl, hI, hb, hk⟩
  have HT2 := Aside0.mk (HT1.out.read hI hb hk (aftT_bytes HT1.out.by_))
  clear HT1 hI hb hk hr0
  obtain ⟨s, hs⟩ : ∃ s, s = textOf l := ⟨_, rfl⟩
  rw [← hs]
  have HS := Aside0.mk hs
  clear hs
  have he0 := blk_cell HT2.out.hE 0
  have hfz := blk_frozen HT2.out.hE 0
  go_upto_region 5 with (fail)
  have HT3 := Aside0.mk (HT2.out.set0 s)
  clear HT2 he0 hfz
  generalize w2.setCell ⟨E, 0, none⟩ (.string s) = w3 at HT3 ⊢
  have hr0 := blk_cell HT3.out.hR 0
  go_wp2_with fail
  refine (text_calls P w3 g (aftT l) (badT l bad) HT3.out.rd HT3.out.by_).mono ?_
  rintro e w4 ⟨rfl, hI, hb, hk⟩
  have HT4 := Aside0.mk (HT3.out.read hI hb hk (aftT_bytes HT3.out.by_))
  clear HT3 hI hb hk hr0
  obtain ⟨t, ht⟩ : ∃ t, t = textOf (aftT l) := ⟨_, rfl⟩
  rw [← ht]
  have HTT := Aside0.mk ht
  clear ht
  have he0 := blk_cell HT4.out.hE 1
  have hfz := blk_frozen HT4.out.hE 1
  go_upto_region 6 with (fail)
  have HT5 := Aside0.mk (HT4.out.set1 t)
  clear HT4 he0 hfz
  generalize w4.setCell ⟨E, 1, none⟩ (.string t) = w5 at HT5 ⊢
  have hr0 := blk_cell HT5.out.hR 0
  go_wp2_with fail
  obtain ⟨n, hn⟩ : ∃ n, n = numOf (aftT (aftT l)) := ⟨_, rfl⟩
  have HN := Aside0.mk hn
  clear hn
  refine (times_calls (fun i wi => ∃ v, Tk w0 wi P g E R (takeTs i (aft (aftT (aftT l))) (badOf (aftT (aftT l)) (badT (aftT l) (badT l bad)))).2.1 (takeTs i (aft (aftT (aftT l))) (badOf (aftT (aftT l)) (badT (aftT l) (badT l bad)))).2.2 s t v (takeTs i (aft (aftT (aftT l))) (badOf (aftT (aftT l)) (badT (aftT l) (badT l bad)))).1 (.slice none 0 0) []) 6 62 (.pointer (some ⟨E, 0, none⟩)) (.pointer (some ⟨R, 0, none⟩)) P w5 g (aftT (aftT l)) (badT (aftT l) (badT l bad)) HT5.out.rd HT5.out.by_ (by decide) (by decide) (enters_of Try.func62 (by kernel_rfl) rfl)
    (fun w1 h1 h2 h3 => ⟨_, HT5.out.read h1 h2 h3 (aft_bytes HT5.out.by_)⟩) (fun i w1 hi hle hv => by
      obtain ⟨v, hv⟩ := hv
      exact (tag_calls w0 w1 P g E R _ _ s t v _ _ _ hv (by rw [takeTs_len]; omega)).mono (fun e w2 h => h))).mono ?_
  rintro e w6 (⟨hbad, rfl, hI, hb, hk⟩ | ⟨hn0, hn6, rfl, v2, hv⟩)
  · have HT6 := Aside0.mk (HT5.out.read hI hb hk (aft_bytes HT5.out.by_))
    have HBYX := Aside0.mk HT6.out.by_
    have HBAD := Aside0.mk hbad
    clear hI hb hk hr0 hbad
    have HQW := Aside0.mk ((HT6.out.keep.blk HQ.out (by have := HGW.out; have := HQN.out.2; omega) (by simp)))
    have HO := Aside0.mk (Out.of_Tk HT6.out HB0.out HGW.out)
    clear HT6 HT5
    have hq0 := blk_cell HQW.out 0
    have hq1 := blk_cell HQW.out 1
    have hq2 := blk_cell HQW.out 2
    have hq3 := blk_cell HQW.out 3
    have hf0 := blk_frozen HQW.out 0
    have hf1 := blk_frozen HQW.out 1
    have hf2 := blk_frozen HQW.out 2
    have hf3 := blk_frozen HQW.out 3
    go_wp2
    have HQ2 := blk_put (cs' := #[.string ⟨#[]⟩, .string ⟨#[]⟩, .slice none 0 0, .slice none 0 0]) (blk_put (cs' := #[.string ⟨#[]⟩, .string ⟨#[]⟩, .slice none 0 0, .slice none 0 0]) (blk_put (cs' := #[.string ⟨#[]⟩, .string ⟨#[]⟩, .slice none 0 0, .slice none 0 0]) (blk_put (cs' := #[.string ⟨#[]⟩, .string ⟨#[]⟩, .slice none 0 0, .slice none 0 0]) HQW.out 0 (.string ⟨#[]⟩) rfl) 1 (.string ⟨#[]⟩) rfl) 2 (.slice none 0 0) rfl) 3 (.slice none 0 0) rfl
    refine bodyPost_ret (results_ct rfl _ _ Q 40 _ (0, 0) _ rfl HQ2 Try.underlying40 rfl (by kernel_rfl)) rfl ?_
    have hx := HX.out
    rw [takeE_n HBAD.out] at hx
    simp only [Prod.mk.injEq] at hx
    obtain ⟨rfl, rfl, rfl, rfl⟩ := hx
    have ho := (((HO.out.set HGW.out HP.out HQN.out.2 0 (.string ⟨#[]⟩)).set HGW.out HP.out HQN.out.2 1 (.string ⟨#[]⟩)).set HGW.out HP.out HQN.out.2 2 (.slice none 0 0)).set HGW.out HP.out HQN.out.2 3 (.slice none 0 0)
    exact ⟨.slice none 0 0, .slice none 0 0, rfl, Kd.R_nil _ _ _ _ _, Kd.R_nil _ _ _ _ _, ho.1, HBYX.out, ho.2.1, ho.2.2⟩
  · obtain ⟨q, hq⟩ : ∃ q, takeTs (numOf (aftT (aftT l))).toNat (aft (aftT (aftT l))) (badOf (aftT (aftT l)) (badT (aftT l) (badT l bad))) = q := ⟨_, rfl⟩
    rw [hq] at hv
    have hql : q.1.length ≤ 6 := by rw [← hq, takeTs_len]; omega
    have hqs := takeTs_left (aft (aftT (aftT l))) (badOf (aftT (aftT l)) (badT (aftT l) (badT l bad))) (aft_bytes HT5.out.by_) (numOf (aftT (aftT l))).toNat
    rw [hq] at hqs
    have hlen5 := HT5.out.rd.len
    have HZT : Aside0 (∀ x ∈ q.1, x.size ≤ 9223372036854775807) := ⟨fun x hx => Nat.le_trans (hqs.2.2 x hx) (Nat.le_trans (aft_len _ HT5.out.by_) hlen5)⟩
    have HL6 : Aside0 (q.2.1.length ≤ 9223372036854775807) := ⟨Nat.le_trans hqs.2.1 (Nat.le_trans (aft_len _ HT5.out.by_) hlen5)⟩
    have HQQ := Aside0.mk hq
    have HN1 : Aside0 (¬ (numOf (aftT (aftT l)) < 0 ∨ 6 < numOf (aftT (aftT l)))) := ⟨by omega⟩
    have HT6 := Aside0.mk hv
    clear HT5 hr0 hv hq hn0 hn6 hqs hlen5
    obtain ⟨tags, l4, b4⟩ := q
    simp only at HT6 HZT HL6 hql
    have hr0 := blk_cell HT6.out.hR 0
    go_wp2_with fail
    refine (times_calls (fun i wi => ∃ v, Tk w0 wi P g E R (takeFs i (aft l4) (badOf l4 b4)).2.1 (takeFs i (aft l4) (badOf l4 b4)).2.2 s t v2 tags v (takeFs i (aft l4) (badOf l4 b4)).1) 4 63 (.pointer (some ⟨R, 0, none⟩)) (.pointer (some ⟨E, 0, none⟩)) P w6 g l4 b4 HT6.out.rd HT6.out.by_ (by decide) (by decide) (enters_of Try.func63 (by kernel_rfl) rfl)
      (fun w1 h1 h2 h3 => ⟨_, HT6.out.read h1 h2 h3 (aft_bytes HT6.out.by_)⟩) (fun i w1 hi hle hv => by
        obtain ⟨v, hv⟩ := hv
        exact (field_calls w0 w1 P g E R _ _ s t v2 tags v _ hv (by rw [takeFs_len]; omega)).mono (fun e w2 h => h))).mono ?_
    rintro e w7 (⟨hbad, rfl, hI, hb, hk⟩ | ⟨hn0, hn4, rfl, v3, hv⟩)
    · have HT7 := Aside0.mk (HT6.out.read hI hb hk (aft_bytes HT6.out.by_))
      have HBYX := Aside0.mk HT7.out.by_
      have HBAD := Aside0.mk hbad
      clear hI hb hk hr0 hbad HT6
      have HQW := Aside0.mk ((HT7.out.keep.blk HQ.out (by have := HGW.out; have := HQN.out.2; omega) (by simp)))
      have HO := Aside0.mk (Out.of_Tk HT7.out HB0.out HGW.out)
      clear HT7
      have hq0 := blk_cell HQW.out 0
      have hq1 := blk_cell HQW.out 1
      have hq2 := blk_cell HQW.out 2
      have hq3 := blk_cell HQW.out 3
      have hf0 := blk_frozen HQW.out 0
      have hf1 := blk_frozen HQW.out 1
      have hf2 := blk_frozen HQW.out 2
      have hf3 := blk_frozen HQW.out 3
      go_wp2
      have HQ2 := blk_put (cs' := #[.string ⟨#[]⟩, .string ⟨#[]⟩, .slice none 0 0, .slice none 0 0]) (blk_put (cs' := #[.string ⟨#[]⟩, .string ⟨#[]⟩, .slice none 0 0, .slice none 0 0]) (blk_put (cs' := #[.string ⟨#[]⟩, .string ⟨#[]⟩, .slice none 0 0, .slice none 0 0]) (blk_put (cs' := #[.string ⟨#[]⟩, .string ⟨#[]⟩, .slice none 0 0, .slice none 0 0]) HQW.out 0 (.string ⟨#[]⟩) rfl) 1 (.string ⟨#[]⟩) rfl) 2 (.slice none 0 0) rfl) 3 (.slice none 0 0) rfl
      refine bodyPost_ret (results_ct rfl _ _ Q 40 _ (0, 0) _ rfl HQ2 Try.underlying40 rfl (by kernel_rfl)) rfl ?_
      have hx := HX.out
      rw [takeE_m HN1.out HQQ.out HBAD.out] at hx
      simp only [Prod.mk.injEq] at hx
      obtain ⟨rfl, rfl, rfl, rfl⟩ := hx
      have ho := (((HO.out.set HGW.out HP.out HQN.out.2 0 (.string ⟨#[]⟩)).set HGW.out HP.out HQN.out.2 1 (.string ⟨#[]⟩)).set HGW.out HP.out HQN.out.2 2 (.slice none 0 0)).set HGW.out HP.out HQN.out.2 3 (.slice none 0 0)
      exact ⟨.slice none 0 0, .slice none 0 0, rfl, Kd.R_nil _ _ _ _ _, Kd.R_nil _ _ _ _ _, ho.1, HBYX.out, ho.2.1, ho.2.2⟩
    · obtain ⟨q2, hq2⟩ : ∃ q2, takeFs (numOf l4).toNat (aft l4) (badOf l4 b4) = q2 := ⟨_, rfl⟩
      rw [hq2] at hv
      have hqs := takeFs_left (aft l4) (badOf l4 b4) (aft_bytes HT6.out.by_) (numOf l4).toNat
      rw [hq2] at hqs
      have hql2 : q2.1.length ≤ 4 := by rw [← hq2, takeFs_len]; omega
      have HZF : Aside0 (∀ x ∈ q2.1, x.f0.size ≤ 9223372036854775807) := ⟨fun x hx => Nat.le_trans (hqs.2.2 x hx) (Nat.le_trans (aft_len _ HT6.out.by_) HL6.out)⟩
      have HQ2 := Aside0.mk hq2
      have HN2 : Aside0 (¬ (numOf l4 < 0 ∨ 4 < numOf l4)) := ⟨by omega⟩
      have HT7 := Aside0.mk hv
      have HR := Aside0.mk (takeE_r HN1.out HQQ.out HN2.out hq2)
      clear HT6 hr0 hv hq2 hn0 hn4 hqs HQ2 HQQ HN1 HN2
      obtain ⟨fl, l6, b6⟩ := q2
      simp only at HT7 HZF hql2 HR
      have HBYX := Aside0.mk HT7.out.by_
      have hr0 := blk_cell HT7.out.hR 0
      go_wp2_with fail
      refine (bad_calls P w7 g l6 b6 HT7.out.rd).mono ?_
      rintro e w8 ⟨rfl, rfl⟩
      cases b6 with
      | true =>
        have HR2 := Aside0.mk (HR.out.trans (if_pos (.inl rfl)))
        clear hr0 HR
        have HQW := Aside0.mk ((HT7.out.keep.blk HQ.out (by have := HGW.out; have := HQN.out.2; omega) (by simp)))
        have HO := Aside0.mk (Out.of_Tk HT7.out HB0.out HGW.out)
        clear HT7
        have hq0 := blk_cell HQW.out 0
        have hq1 := blk_cell HQW.out 1
        have hq2 := blk_cell HQW.out 2
        have hq3 := blk_cell HQW.out 3
        have hf0 := blk_frozen HQW.out 0
        have hf1 := blk_frozen HQW.out 1
        have hf2 := blk_frozen HQW.out 2
        have hf3 := blk_frozen HQW.out 3
        go_wp2
        have HQ2 := blk_put (cs' := #[.string ⟨#[]⟩, .string ⟨#[]⟩, .slice none 0 0, .slice none 0 0]) (blk_put (cs' := #[.string ⟨#[]⟩, .string ⟨#[]⟩, .slice none 0 0, .slice none 0 0]) (blk_put (cs' := #[.string ⟨#[]⟩, .string ⟨#[]⟩, .slice none 0 0, .slice none 0 0]) (blk_put (cs' := #[.string ⟨#[]⟩, .string ⟨#[]⟩, .slice none 0 0, .slice none 0 0]) HQW.out 0 (.string ⟨#[]⟩) rfl) 1 (.string ⟨#[]⟩) rfl) 2 (.slice none 0 0) rfl) 3 (.slice none 0 0) rfl
        refine bodyPost_ret (results_ct rfl _ _ Q 40 _ (0, 0) _ rfl HQ2 Try.underlying40 rfl (by kernel_rfl)) rfl ?_
        have hx := HX.out
        rw [HR2.out] at hx
        simp only [Prod.mk.injEq] at hx
        obtain ⟨rfl, rfl, rfl, rfl⟩ := hx
        have ho := (((HO.out.set HGW.out HP.out HQN.out.2 0 (.string ⟨#[]⟩)).set HGW.out HP.out HQN.out.2 1 (.string ⟨#[]⟩)).set HGW.out HP.out HQN.out.2 2 (.slice none 0 0)).set HGW.out HP.out HQN.out.2 3 (.slice none 0 0)
        exact ⟨.slice none 0 0, .slice none 0 0, rfl, Kd.R_nil _ _ _ _ _, Kd.R_nil _ _ _ _ _, ho.1, HBYX.out, ho.2.1, ho.2.2⟩
      | false =>
        obtain ⟨A2, c2, e2, hc2, hC2⟩ := Kd.R_reads HT7.out.r2
        subst e2
        obtain ⟨A3, c3, e3, hc3, hC3⟩ := Kd.R_reads HT7.out.r3
        subst e3
        have HC2 := Aside0.mk hC2
        have HC3 := Aside0.mk hC3
        have he0 := blk_cell HT7.out.hE 0
        have he1 := blk_cell HT7.out.hE 1
        have he2 := blk_cell HT7.out.hE 2
        have he3 := blk_cell HT7.out.hE 3
        clear hC2 hC3
        go_wp2_with fail
        refine (eventMay_calls s t A2 A3 c2 c3 tags fl w7 HC2.out hc2 HC3.out hc3 (by rw [HS.out]; exact HSZ.out) (by rw [HTT.out]; exact HSY.out) HZT.out HZF.out (by omega)).mono ?_
        rintro e w8 ⟨rfl, hb⟩
        have HT8 := Aside0.mk (HT7.out.up hb)
        clear HT7 hb he0 he1 he2 he3 hr0 HC2 HC3
        obtain ⟨m, hm⟩ : ∃ m, m = mayE s t tags fl := ⟨_, rfl⟩
        rw [← hm]
        have HM := Aside0.mk hm
        clear hm
        by_cases h0 : m = 0
        · have hbn : (m != 0) = false := bne_eq_false_iff_eq.mpr h0
          have HR2 := Aside0.mk (HR.out.trans (if_neg (by rintro (h | h); (· cases h); exact h (by rw [← HS.out, ← HTT.out, ← HM.out]; exact h0))))
          clear h0 HR
          have HQW := Aside0.mk ((HT8.out.keep.blk HQ.out (by have := HGW.out; have := HQN.out.2; omega) (by simp)))
          have HO := Aside0.mk (Out.of_Tk HT8.out HB0.out HGW.out)
          have hq0 := blk_cell HQW.out 0
          have hq1 := blk_cell HQW.out 1
          have hq2 := blk_cell HQW.out 2
          have hq3 := blk_cell HQW.out 3
          have hf0 := blk_frozen HQW.out 0
          have hf1 := blk_frozen HQW.out 1
          have hf2 := blk_frozen HQW.out 2
          have hf3 := blk_frozen HQW.out 3
          have he0 := blk_cell HT8.out.hE 0
          have he1 := blk_cell HT8.out.hE 1
          have he2 := blk_cell HT8.out.hE 2
          have he3 := blk_cell HT8.out.hE 3
          go_wp2
          have HQ2 := blk_put (cs' := #[.string s, .string t, .slice A2 tags.length c2, .slice A3 fl.length c3]) (blk_put (cs' := #[.string s, .string t, .slice A2 tags.length c2, .slice none 0 0]) (blk_put (cs' := #[.string s, .string t, .slice none 0 0, .slice none 0 0]) (blk_put (cs' := #[.string s, .string ⟨#[]⟩, .slice none 0 0, .slice none 0 0]) HQW.out 0 (.string s) rfl) 1 (.string t) rfl) 2 (.slice A2 tags.length c2) rfl) 3 (.slice A3 fl.length c3) rfl
          refine bodyPost_ret (results_ct rfl _ _ Q 40 _ (0, 0) _ rfl HQ2 Try.underlying40 rfl (by kernel_rfl)) rfl ?_
          have hx := HX.out
          rw [HR2.out] at hx
          simp only [Prod.mk.injEq] at hx
          obtain ⟨rfl, rfl, rfl, rfl⟩ := hx
          have ho := (((HO.out.set HGW.out HP.out HQN.out.2 0 (.string s)).set HGW.out HP.out HQN.out.2 1 (.string t)).set HGW.out HP.out HQN.out.2 2 (.slice A2 tags.length c2)).set HGW.out HP.out HQN.out.2 3 (.slice A3 fl.length c3)
          exact ⟨.slice A2 tags.length c2, .slice A3 fl.length c3, by rw [HS.out, HTT.out]; rfl, Kd.R_lower (R_set4 HT8.out.r2 HQW.out (by decide) _ _ _ _) HB0.out.size, Kd.R_lower (R_set4 HT8.out.r3 HQW.out (by decide) _ _ _ _) HB0.out.size, ho.1, HBYX.out, ho.2.1, ho.2.2⟩
        · have hbn : (m != 0) = true := bne_iff_ne.mpr h0
          have HR2 := Aside0.mk (HR.out.trans (if_pos (.inr (by rw [← HS.out, ← HTT.out, ← HM.out]; exact h0))))
          clear h0 HR
          have HQW := Aside0.mk ((HT8.out.keep.blk HQ.out (by have := HGW.out; have := HQN.out.2; omega) (by simp)))
          have HO := Aside0.mk (Out.of_Tk HT8.out HB0.out HGW.out)
          clear HT8
          have hq0 := blk_cell HQW.out 0
          have hq1 := blk_cell HQW.out 1
          have hq2 := blk_cell HQW.out 2
          have hq3 := blk_cell HQW.out 3
          have hf0 := blk_frozen HQW.out 0
          have hf1 := blk_frozen HQW.out 1
          have hf2 := blk_frozen HQW.out 2
          have hf3 := blk_frozen HQW.out 3
          go_wp2
          have HQ2 := blk_put (cs' := #[.string ⟨#[]⟩, .string ⟨#[]⟩, .slice none 0 0, .slice none 0 0]) (blk_put (cs' := #[.string ⟨#[]⟩, .string ⟨#[]⟩, .slice none 0 0, .slice none 0 0]) (blk_put (cs' := #[.string ⟨#[]⟩, .string ⟨#[]⟩, .slice none 0 0, .slice none 0 0]) (blk_put (cs' := #[.string ⟨#[]⟩, .string ⟨#[]⟩, .slice none 0 0, .slice none 0 0]) HQW.out 0 (.string ⟨#[]⟩) rfl) 1 (.string ⟨#[]⟩) rfl) 2 (.slice none 0 0) rfl) 3 (.slice none 0 0) rfl
          refine bodyPost_ret (results_ct rfl _ _ Q 40 _ (0, 0) _ rfl HQ2 Try.underlying40 rfl (by kernel_rfl)) rfl ?_
          have hx := HX.out
          rw [HR2.out] at hx
          simp only [Prod.mk.injEq] at hx
          obtain ⟨rfl, rfl, rfl, rfl⟩ := hx
          have ho := (((HO.out.set HGW.out HP.out HQN.out.2 0 (.string ⟨#[]⟩)).set HGW.out HP.out HQN.out.2 1 (.string ⟨#[]⟩)).set HGW.out HP.out HQN.out.2 2 (.slice none 0 0)).set HGW.out HP.out HQN.out.2 3 (.slice none 0 0)
          exact ⟨.slice none 0 0, .slice none 0 0, rfl, Kd.R_nil _ _ _ _ _, Kd.R_nil _ _ _ _ _, ho.1, HBYX.out, ho.2.1, ho.2.2⟩
end Go.Proofs.Ytafeakcajhhkoaa.Num
namespace Go.Proofs.Ytafeakcajhhkoaa.Prt
open Go.RowKit Go.Proofs.YtafeakcajhhkoaaW.PrintWords Go.Proofs.YtafeakcajhhkoaaW.PrintLast Go.Proofs.YtafeakcajhhkoaaW.PrintMore Go.Proofs.Ytafeakcajhhkoaa.Num Go.Proofs.Ytafeakcajhhkoaa.Nam
set_option linter.unusedVariables false
set_option linter.unusedSimpArgs false

end Go.Proofs.Ytafeakcajhhkoaa.Prt
namespace Go.Proofs.Ytafeakcajhhkoaa.Prt
open Go.RowKit Go.Proofs.YtafeakcajhhkoaaW.PrintWords Go.Proofs.YtafeakcajhhkoaaW.PrintLast Go.Proofs.YtafeakcajhhkoaaW.PrintMore
attribute [local go_sem] max2_int min2_int max_two min_two max_three min_three max_four min_four   -- for this text's walks alone
set_option linter.unusedVariables false
set_option linter.unusedSimpArgs false

end Go.Proofs.Ytafeakcajhhkoaa.Prt
namespace Go.Proofs.Ytafeakcajhhkoaa.Prt
open Go.RowKit Go.Proofs.YtafeakcajhhkoaaW.PrintWords Go.Proofs.YtafeakcajhhkoaaW.PrintLast Go.Proofs.YtafeakcajhhkoaaW.PrintMore Go.Proofs.Ytafeakcajhhkoaa.Num Go.Proofs.Ytafeakcajhhkoaa.Nam
set_option linter.unusedVariables false
set_option linter.unusedSimpArgs false

end Go.Proofs.Ytafeakcajhhkoaa.Prt
namespace Go.Proofs.Ytafeakcajhhkoaa.Prt
open Go.RowKit Go.Proofs.YtafeakcajhhkoaaW.PrintWords Go.Proofs.YtafeakcajhhkoaaW.PrintLast Go.Proofs.YtafeakcajhhkoaaW.PrintMore
attribute [local go_sem] max2_int min2_int max_two min_two max_three min_three max_four min_four   -- for this text's walks alone
set_option linter.unusedVariables false
set_option linter.unusedSimpArgs false

end Go.Proofs.Ytafeakcajhhkoaa.Prt
namespace Go.Proofs.Ytafeakcajhhkoaa.Prt
open Go.RowKit Go.Proofs.YtafeakcajhhkoaaW.PrintWords Go.Proofs.YtafeakcajhhkoaaW.PrintLast Go.Proofs.YtafeakcajhhkoaaW.PrintMore
attribute [local go_sem] max2_int min2_int max_two min_two max_three min_three max_four min_four   -- for this text's walks alone
set_option linter.unusedVariables false
set_option linter.unusedSimpArgs false

end Go.Proofs.Ytafeakcajhhkoaa.Prt
namespace Go.Proofs.Ytafeakcajhhkoaa.Prt
open Go.RowKit Go.Proofs.YtafeakcajhhkoaaW.PrintWords Go.Proofs.YtafeakcajhhkoaaW.PrintLast Go.Proofs.YtafeakcajhhkoaaW.PrintMore
attribute [local go_sem] max2_int min2_int max_two min_two max_three min_three max_four min_four   -- for this text's walks alone
set_option linter.unusedVariables false
set_option linter.unusedSimpArgs false

def registrarref04_Texts.l0 : Nat → List ByteArray → List ByteArray → Int → Option (Bool)
  | 0, _, _, _ => none
  | k + 1, x0, x1, x5 => if x5 < (x0.length : Int) then (if 0 ≤ x5 then (if x5 < (x1.length : Int) then (if (rdOf ByteArray.empty x0 x5).toList = (rdOf ByteArray.empty x1 x5).toList then (registrarref04_Texts.l0 k x0 x1 (wrap64 (x5 + 1))) else (some false)) else (none)) else (none)) else (some true)
def registrarref04_Texts.f (k : Nat) (l0 : List ByteArray) (l1 : List ByteArray) : Option (Bool) := if (l0.length : Int) = (l1.length : Int) then (registrarref04_Texts.l0 k l0 l1 0) else (some false)
set_option maxHeartbeats 8000000 in
set_option maxRecDepth 100000 in
theorem registrarref04_Texts.calls (k : Nat) (A0 : Option Addr) (c0 : Nat) (l0 : List ByteArray) (A1 : Option Addr) (c1 : Nat) (l1 : List ByteArray) (r : Bool) (w : World) (hr0 : Kd.C Kd.string w A0 l0.length l0) (hc0 : l0.length ≤ c0) (hr1 : Kd.C Kd.string w A1 l1.length l1) (hc1 : l1.length ≤ c1) (h : registrarref04_Texts.f k l0 l1 = some r) :
    Calls Try.prog 59 #[.slice A0 l0.length c0, .slice A1 l1.length c1] w fun e w' => e = .returned (.bool r) ∧ Drawn0 w w' := by
  have HR0 := Aside0.mk hr0
  have HC0 := Aside0.mk hc0
  clear hr0 hc0
  have HR1 := Aside0.mk hr1
  have HC1 := Aside0.mk hc1
  clear hr1 hc1
  have H : (if (l0.length : Int) = (l1.length : Int) then (registrarref04_Texts.l0 k l0 l1 0) else (some false)) = some r := h
  clear h
  by_cases c3 : (l0.length : Int) = (l1.length : Int)
  · rw [if_pos c3] at H
    have c3b0 : ((l0.length : Int) == (l1.length : Int)) = true := beq_iff_eq.mpr c3
    have c3b1 : ((l0.length : Int) != (l1.length : Int)) = false := bne_eq_false_iff_eq.mpr c3
    have c3b2 : (l0.length == l1.length) = true := by first | simpa using c3 | (simp at c3 ⊢; omega)
    clear c3
    have H' := Aside0.mk H
    clear H
    go_enter Try.func59, Try.ntmps59
    go_wp2
    repeat (go_quiet (fail); try go_wp2)
    go_loopg [5] k (fun kq v5 w' => ∃ (x5_1 : Int), v5 = .int .i64 x5_1 ∧ Aside0 (registrarref04_Texts.l0 kq l0 l1 x5_1 = some r) ∧ Aside0 (kq ≤ k) ∧ Drawn0 w w')
    case atStart => exact ⟨(0), (by first | rfl | (simp; done) | (simp [*]; done)), H', ⟨Nat.le_refl _⟩, by repeat (first | exact Drawn0.refl _ | apply Drawn0.step)⟩
    case round =>
      clear H'
      try clear c1
      try clear p2
      try clear c3
      try clear c3b0
      try clear c3b1
      try clear c3b2
      obtain ⟨x5_1, rfl, HA, HK1, ⟨m1, rfl⟩⟩ := hrel
      cases gk with
      | zero => exact absurd HA.out (by simp [registrarref04_Texts.l0])
      | succ k1 =>
        have H := HA.out
        clear HA
        simp only [registrarref04_Texts.l0] at H
        by_cases c4 : x5_1 < (l0.length : Int)
        · rw [if_pos c4] at H
          have c4b0 : decide (x5_1 < (l0.length : Int)) = true := decide_eq_true c4
          clear c4
          by_cases c5 : 0 ≤ x5_1
          · rw [if_pos c5] at H
            have c5b0 : decide (0 ≤ x5_1) = true := decide_eq_true c5
            clear c5
            by_cases c6 : x5_1 < (l1.length : Int)
            · rw [if_pos c6] at H
              have c6b0 : decide (x5_1 < (l1.length : Int)) = true := decide_eq_true c6
              clear c6
              by_cases c7 : (rdOf ByteArray.empty l0 x5_1).toList = (rdOf ByteArray.empty l1 x5_1).toList
              · rw [if_pos c7] at H
                have c7b0 : ((rdOf ByteArray.empty l0 x5_1).toList == (rdOf ByteArray.empty l1 x5_1).toList) = true := beq_iff_eq.mpr c7
                have c7b1 : ((rdOf ByteArray.empty l0 x5_1).toList != (rdOf ByteArray.empty l1 x5_1).toList) = false := bne_eq_false_iff_eq.mpr c7
                clear c7
                have H' := Aside0.mk H
                clear H
                have p281 : 0 ≤ (x5_1 : Int) := of_decide_eq_true (by first | (with_reducible assumption) | assumption)
                have q281 : x5_1 < (l0.length : Int) := of_decide_eq_true (by first | (with_reducible assumption) | assumption)
                obtain ⟨ad281, e281, hx281_0⟩ := Kd.at_string HR0.out x5_1 p281 q281
                cases e281
                replace p281 := eq_true p281
                replace q281 := eq_true q281
                have p282 : 0 ≤ (x5_1 : Int) := of_decide_eq_true (by first | (with_reducible assumption) | assumption)
                have q282 : x5_1 < (l1.length : Int) := of_decide_eq_true (by first | (with_reducible assumption) | assumption)
                obtain ⟨ad282, e282, hx282_0⟩ := Kd.at_string HR1.out x5_1 p282 q282
                cases e282
                replace p282 := eq_true p282
                replace q282 := eq_true q282
                go_wp2
                repeat (go_quiet (fail); try go_wp2)
                go_roundg k1
                case measure => have := HK1.out; omega
                case rel => exact ⟨(wrap64 (x5_1 + 1)), (by first | rfl | (simp; done) | (simp [*]; done)), H', ⟨by have := HK1.out; omega⟩, by repeat (first | exact Drawn0.refl _ | apply Drawn0.step)⟩
              · rw [if_neg c7] at H
                have c7b0 : ((rdOf ByteArray.empty l0 x5_1).toList == (rdOf ByteArray.empty l1 x5_1).toList) = false := beq_eq_false_iff_ne.mpr c7
                have c7b1 : ((rdOf ByteArray.empty l0 x5_1).toList != (rdOf ByteArray.empty l1 x5_1).toList) = true := bne_iff_ne.mpr c7
                obtain rfl := Option.some.inj H
                have p281 : 0 ≤ (x5_1 : Int) := of_decide_eq_true (by first | (with_reducible assumption) | assumption)
                have q281 : x5_1 < (l0.length : Int) := of_decide_eq_true (by first | (with_reducible assumption) | assumption)
                obtain ⟨ad281, e281, hx281_0⟩ := Kd.at_string HR0.out x5_1 p281 q281
                cases e281
                replace p281 := eq_true p281
                replace q281 := eq_true q281
                have p282 : 0 ≤ (x5_1 : Int) := of_decide_eq_true (by first | (with_reducible assumption) | assumption)
                have q282 : x5_1 < (l1.length : Int) := of_decide_eq_true (by first | (with_reducible assumption) | assumption)
                obtain ⟨ad282, e282, hx282_0⟩ := Kd.at_string HR1.out x5_1 p282 q282
                cases e282
                replace p282 := eq_true p282
                replace q282 := eq_true q282
                go_wp2
                repeat (go_quiet (fail); try go_wp2)
                go_ret
                exact ⟨by first | rfl | (simp; done) | (simp [*]; done), by repeat (first | exact Drawn0.refl _ | apply Drawn0.step)⟩
            · rw [if_neg c6] at H
              exact absurd H (by simp)
          · rw [if_neg c5] at H
            exact absurd H (by simp)
        · rw [if_neg c4] at H
          have c4b0 : decide (x5_1 < (l0.length : Int)) = false := decide_eq_false c4
          clear c4
          obtain rfl := Option.some.inj H
          go_wp2
          repeat (go_quiet (fail); try go_wp2)
          go_ret
          exact ⟨by first | rfl | (simp; done) | (simp [*]; done), by repeat (first | exact Drawn0.refl _ | apply Drawn0.step)⟩
  · rw [if_neg c3] at H
    have c3b0 : ((l0.length : Int) == (l1.length : Int)) = false := beq_eq_false_iff_ne.mpr c3
    have c3b1 : ((l0.length : Int) != (l1.length : Int)) = true := bne_iff_ne.mpr c3
    have c3b2 : (l0.length == l1.length) = false := by first | simpa using c3 | (simp at c3 ⊢; omega)
    obtain rfl := Option.some.inj H
    go_enter Try.func59, Try.ntmps59
    go_wp2
    repeat (go_quiet (fail); try go_wp2)
    go_ret
    exact ⟨by first | rfl | (simp; done) | (simp [*]; done), by repeat (first | exact Drawn0.refl _ | apply Drawn0.step)⟩

end Go.Proofs.Ytafeakcajhhkoaa.Prt
namespace Go.Proofs.Ytafeakcajhhkoaa.Prt
open Go.RowKit Go.Proofs.YtafeakcajhhkoaaW.PrintWords Go.Proofs.YtafeakcajhhkoaaW.PrintLast Go.Proofs.YtafeakcajhhkoaaW.PrintMore Go.Proofs.Ytafeakcajhhkoaa.Num Go.Proofs.Ytafeakcajhhkoaa.Nam
set_option linter.unusedVariables false
set_option linter.unusedSimpArgs false

theorem succW (i : Nat) (h : i < 9223372036854775807) : wrap64 ((i : Int) + 1) = ((i + 1 : Nat) : Int) := by rw [wrapI (by omega) (by omega)]; omega
theorem rdOf_mem {l : List ByteArray} {i : Nat} (h : i < l.length) : rdOf ByteArray.empty l (i : Int) ∈ l := getD_mem' h _
theorem drop_rd (l : List ByteArray) (i : Nat) (h : i < l.length) : l.drop i = rdOf ByteArray.empty l (i : Int) :: l.drop (i + 1) := by
  rw [List.drop_eq_getElem_cons h]
  unfold rdOf
  rw [Int.toNat_natCast, List.getD_eq_getElem?_getD, List.getElem?_eq_getElem h]; rfl
/-- Two rows are the same, element by element. -/
def eqL {α : Type} (e : α → α → Bool) : List α → List α → Bool
  | [], [] => true
  | a :: r, b :: s => e a b && eqL e r s
  | _, _ => false
theorem eqL_iff {α : Type} {e : α → α → Bool} (h : ∀ x y, e x y = true ↔ x = y) : ∀ a b, eqL e a b = true ↔ a = b
  | [], [] => by simp [eqL]
  | a :: r, b :: s => by simp [eqL, h, eqL_iff h r s]
  | [], _ :: _ => by simp [eqL]
  | _ :: _, [] => by simp [eqL]
theorem eqL_len {α : Type} {e : α → α → Bool} : ∀ a b, a.length ≠ b.length → eqL e a b = false
  | [], [], h => absurd rfl h
  | a :: r, b :: s, h => by rw [eqL, eqL_len r s (fun h2 => h (by simp [h2])), Bool.and_false]
  | [], _ :: _, _ => rfl
  | _ :: _, [], _ => rfl
def eqS (a b : ByteArray) : Bool := a.toList == b.toList
theorem eqS_iff (a b : ByteArray) : eqS a b = true ↔ a = b := by unfold eqS; rw [beq_iff_eq]; exact ⟨toList_inj, fun h => by rw [h]⟩
theorem texts_loop (a b : List ByteArray) (hl : a.length ≤ 9223372036854775807) (hab : a.length = b.length) : ∀ (n i k : Nat), i + n = a.length → n < k → registrarref04_Texts.l0 k a b (i : Int) = some (eqL eqS (a.drop i) (b.drop i)) := by
  intro n
  induction n with
  | zero =>
    intro i k hi hk
    obtain ⟨k, rfl⟩ : ∃ m, k = m + 1 := ⟨k - 1, by omega⟩
    rw [registrarref04_Texts.l0, if_neg (by omega), List.drop_eq_nil_of_le (by omega), List.drop_eq_nil_of_le (by omega)]; rfl
  | succ n ih =>
    intro i k hi hk
    obtain ⟨k, rfl⟩ : ∃ m, k = m + 1 := ⟨k - 1, by omega⟩
    rw [registrarref04_Texts.l0, if_pos (by omega), if_pos (by omega), if_pos (by omega), drop_rd a i (by omega), drop_rd b i (by omega), eqL]
    by_cases he : (rdOf ByteArray.empty a (i : Int)).toList = (rdOf ByteArray.empty b (i : Int)).toList
    · rw [if_pos he, succW i (by omega), ih (i + 1) k (by omega) (by omega)]
      have : eqS (rdOf ByteArray.empty a (i : Int)) (rdOf ByteArray.empty b (i : Int)) = true := beq_iff_eq.2 he
      rw [this]; rfl
    · rw [if_neg he]
      have : eqS (rdOf ByteArray.empty a (i : Int)) (rdOf ByteArray.empty b (i : Int)) = false := beq_eq_false_iff_ne.2 he
      rw [this]; rfl
def registrarref04_TextsG.f (l0 : List ByteArray) (l1 : List ByteArray) : Option (Bool) := if l0.length ≤ 9223372036854775807 then some (eqL eqS l0 l1) else none
theorem registrarref04_TextsG.val {l0 l1 : List ByteArray} {r : Bool} (h : registrarref04_TextsG.f l0 l1 = some r) : ∃ k, registrarref04_Texts.f k l0 l1 = some r := by
  unfold registrarref04_TextsG.f at h
  by_cases hc : l0.length ≤ 9223372036854775807
  · rw [if_pos hc] at h
    rw [← h]
    refine ⟨l0.length + 1, ?_⟩
    unfold registrarref04_Texts.f
    by_cases hl : l0.length = l1.length
    · rw [if_pos (by omega)]
      exact texts_loop l0 l1 hc hl l0.length 0 (l0.length + 1) (by omega) (by omega)
    · rw [if_neg (by omega), eqL_len _ _ hl]
  · rw [if_neg hc] at h; cases h
theorem registrarref04_TextsG.calls (A0 : Option Addr) (c0 : Nat) (l0 : List ByteArray) (A1 : Option Addr) (c1 : Nat) (l1 : List ByteArray) (r : Bool) (w : World) (hr0 : Kd.C Kd.string w A0 l0.length l0) (hc0 : l0.length ≤ c0) (hr1 : Kd.C Kd.string w A1 l1.length l1) (hc1 : l1.length ≤ c1) (h : registrarref04_TextsG.f l0 l1 = some r) :
    Calls Try.prog 59 #[.slice A0 l0.length c0, .slice A1 l1.length c1] w fun e w' => e = .returned (.bool r) ∧ Drawn0 w w' := by
  obtain ⟨k, hk⟩ := registrarref04_TextsG.val h
  exact registrarref04_Texts.calls k A0 c0 l0 A1 c1 l1 r w hr0 hc0 hr1 hc1 hk
end Go.Proofs.Ytafeakcajhhkoaa.Prt
namespace Go.Proofs.Ytafeakcajhhkoaa.Prt
open Go.RowKit Go.Proofs.YtafeakcajhhkoaaW.PrintWords Go.Proofs.YtafeakcajhhkoaaW.PrintLast Go.Proofs.YtafeakcajhhkoaaW.PrintMore
attribute [local go_sem] max2_int min2_int max_two min_two max_three min_three max_four min_four   -- for this text's walks alone
set_option linter.unusedVariables false
set_option linter.unusedSimpArgs false

end Go.Proofs.Ytafeakcajhhkoaa.Prt
namespace Go.Proofs.Ytafeakcajhhkoaa.Prt
open Go.RowKit Go.Proofs.YtafeakcajhhkoaaW.PrintWords Go.Proofs.YtafeakcajhhkoaaW.PrintLast Go.Proofs.YtafeakcajhhkoaaW.PrintMore
attribute [local go_sem] max2_int min2_int max_two min_two max_three min_three max_four min_four   -- for this text's walks alone
set_option linter.unusedVariables false
set_option linter.unusedSimpArgs false

theorem eqA50 (d : Nat) (w : World) (x0 y0 : ByteArray) (x1 y1 : Int) :
    (Op.equalIn (d + 2) 50 (.agg #[.string x0, .int .i64 x1]) (.agg #[.string y0, .int .i64 y1])).run Try.prog w = .ok (x0.toList == y0.toList && (x1 == y1)) w := by
  refine eqA_of Try.underlying50 (by kernel_rfl) ?_
  refine eqf_cons (by rfl) (by go_simp; rfl) (by go_simp; rfl) (by go_simp) ?_
  exact eqf_last (by rfl) (by go_simp; rfl) (by go_simp; rfl) (by go_simp)
end Go.Proofs.Ytafeakcajhhkoaa.Prt
namespace Go.Proofs.Ytafeakcajhhkoaa.Prt
open Go.RowKit Go.Proofs.YtafeakcajhhkoaaW.PrintWords Go.Proofs.YtafeakcajhhkoaaW.PrintLast Go.Proofs.YtafeakcajhhkoaaW.PrintMore
attribute [local go_sem] max2_int min2_int max_two min_two max_three min_three max_four min_four   -- for this text's walks alone
set_option linter.unusedVariables false
set_option linter.unusedSimpArgs false

attribute [local go_sem high] eqA50
mutual
def registrarref04_Same.j0 : Nat → Bool → ByteArray → ByteArray → List ByteArray → List (S50) → ByteArray → ByteArray → List ByteArray → List (S50) → Option (Bool)
  | 0, _, _, _, _, _, _, _, _, _ => none
  | k + 1, x36, x284000, x284001, x284002, x284003, x285000, x285001, x285002, x285003 => if x36 = true then (some false) else (registrarref04_Same.l0 k 0 x284000 x284001 x284002 x284003 x285000 x285001 x285002 x285003)
def registrarref04_Same.l0 : Nat → Int → ByteArray → ByteArray → List ByteArray → List (S50) → ByteArray → ByteArray → List ByteArray → List (S50) → Option (Bool)
  | 0, _, _, _, _, _, _, _, _, _ => none
  | k + 1, x6, x284000, x284001, x284002, x284003, x285000, x285001, x285002, x285003 => if x6 < (x284003.length : Int) then (if 0 ≤ x6 then (if x6 < (x285003.length : Int) then (if (!((((rd_T50 x284003 x6).f0).toList) == (((rd_T50 x285003 x6).f0).toList)) || (!(((rd_T50 x284003 x6).f1) == ((rd_T50 x285003 x6).f1)))) = true then (some false) else (registrarref04_Same.l0 k (wrap64 (x6 + 1)) x284000 x284001 x284002 x284003 x285000 x285001 x285002 x285003)) else (none)) else (none)) else (some true)
end
def registrarref04_Same.f (k : Nat) (a0_0 : ByteArray) (a0_1 : ByteArray) (l0_2 : List ByteArray) (l0_3 : List (S50)) (a1_0 : ByteArray) (a1_1 : ByteArray) (l1_2 : List ByteArray) (l1_3 : List (S50)) : Option (Bool) := (registrarref04_TextsG.f l0_2 l1_2).bind fun t285 => (if a0_0.toList = a1_0.toList then (if a0_1.toList = a1_1.toList then (if t285 = true then (registrarref04_Same.j0 k ((l0_3.length : Int) != (l1_3.length : Int)) a0_0 a0_1 l0_2 l0_3 a1_0 a1_1 l1_2 l1_3) else (registrarref04_Same.j0 k true a0_0 a0_1 l0_2 l0_3 a1_0 a1_1 l1_2 l1_3)) else (registrarref04_Same.j0 k true a0_0 a0_1 l0_2 l0_3 a1_0 a1_1 l1_2 l1_3)) else (registrarref04_Same.j0 k true a0_0 a0_1 l0_2 l0_3 a1_0 a1_1 l1_2 l1_3))
set_option maxHeartbeats 8000000 in
set_option maxRecDepth 100000 in
theorem registrarref04_Same.calls (k : Nat) (a0_0 : ByteArray) (a0_1 : ByteArray) (A0_2 : Option Addr) (c0_2 : Nat) (l0_2 : List ByteArray) (A0_3 : Option Addr) (c0_3 : Nat) (l0_3 : List (S50)) (a1_0 : ByteArray) (a1_1 : ByteArray) (A1_2 : Option Addr) (c1_2 : Nat) (l1_2 : List ByteArray) (A1_3 : Option Addr) (c1_3 : Nat) (l1_3 : List (S50)) (r : Bool) (w : World) (hr0_2 : Kd.C Kd.string w A0_2 l0_2.length l0_2) (hc0_2 : l0_2.length ≤ c0_2) (hr0_3 : Kd.C k50 w A0_3 l0_3.length l0_3) (hc0_3 : l0_3.length ≤ c0_3) (hr1_2 : Kd.C Kd.string w A1_2 l1_2.length l1_2) (hc1_2 : l1_2.length ≤ c1_2) (hr1_3 : Kd.C k50 w A1_3 l1_3.length l1_3) (hc1_3 : l1_3.length ≤ c1_3) (h : registrarref04_Same.f k a0_0 a0_1 l0_2 l0_3 a1_0 a1_1 l1_2 l1_3 = some r) :
    Calls Try.prog 46 #[.agg #[.string a0_0, .string a0_1, .slice A0_2 l0_2.length c0_2, .slice A0_3 l0_3.length c0_3], .agg #[.string a1_0, .string a1_1, .slice A1_2 l1_2.length c1_2, .slice A1_3 l1_3.length c1_3]] w fun e w' => e = .returned (.bool r) ∧ Below w.heap.size w w' := by
  have hu40 := Try.underlying40
  have hu50 := Try.underlying50
  have HR0_2 := Aside0.mk hr0_2
  have HC0_2 := Aside0.mk hc0_2
  clear hr0_2 hc0_2
  have HR0_3 := Aside0.mk hr0_3
  have HC0_3 := Aside0.mk hc0_3
  clear hr0_3 hc0_3
  have HR1_2 := Aside0.mk hr1_2
  have HC1_2 := Aside0.mk hc1_2
  clear hr1_2 hc1_2
  have HR1_3 := Aside0.mk hr1_3
  have HC1_3 := Aside0.mk hc1_3
  clear hr1_3 hc1_3
  have HB := Aside0.mk (Below.refl w.heap.size w)
  have H : ((registrarref04_TextsG.f l0_2 l1_2).bind fun t285 => (if a0_0.toList = a1_0.toList then (if a0_1.toList = a1_1.toList then (if t285 = true then (registrarref04_Same.j0 k ((l0_3.length : Int) != (l1_3.length : Int)) a0_0 a0_1 l0_2 l0_3 a1_0 a1_1 l1_2 l1_3) else (registrarref04_Same.j0 k true a0_0 a0_1 l0_2 l0_3 a1_0 a1_1 l1_2 l1_3)) else (registrarref04_Same.j0 k true a0_0 a0_1 l0_2 l0_3 a1_0 a1_1 l1_2 l1_3)) else (registrarref04_Same.j0 k true a0_0 a0_1 l0_2 l0_3 a1_0 a1_1 l1_2 l1_3))) = some r := h
  clear h
  replace H := Option.bind_eq_some_iff.mp H
  obtain ⟨t285, A30, H⟩ := H
  replace H : (if a0_0.toList = a1_0.toList then (if a0_1.toList = a1_1.toList then (if t285 = true then (registrarref04_Same.j0 k ((l0_3.length : Int) != (l1_3.length : Int)) a0_0 a0_1 l0_2 l0_3 a1_0 a1_1 l1_2 l1_3) else (registrarref04_Same.j0 k true a0_0 a0_1 l0_2 l0_3 a1_0 a1_1 l1_2 l1_3)) else (registrarref04_Same.j0 k true a0_0 a0_1 l0_2 l0_3 a1_0 a1_1 l1_2 l1_3)) else (registrarref04_Same.j0 k true a0_0 a0_1 l0_2 l0_3 a1_0 a1_1 l1_2 l1_3)) = some r := H
  have A3 := Aside0.mk A30
  clear A30
  have HC4 := Aside0.mk H
  clear H
  go_enter Try.func46, Try.ntmps46
  go_upto_region 2 with (first | ((with_reducible refine gate_dst (N := 2) rfl ?_); (try (refine gate_guard (by rfl) ?_; dsimp only)); refine box_event ?hg (N := 2) ?hd (cs := #[.string a0_0, .string a0_1, .slice A0_2 l0_2.length c0_2, .slice A0_3 l0_3.length c0_3]) (t := 40) ?hr ?_; (case hd => rfl); (case hg => rfl); (case hr => first | (go_simp; done) | (go_simp; rfl)); intro gb283 hg w5 hbox hb; have n0_ := Aside0.mk (below_step (by repeat (first | (with_reducible first | exact HB.out | apply below_alloc | apply pw_below_drewN | apply below_drew1) | exact HB.out)) hb); have n1_ := Aside0.mk (hbox); have n2_ := Aside0.mk ((by rw [hg]; exact (below_size (by repeat (first | (with_reducible first | exact HB.out | apply below_alloc | apply pw_below_drewN | apply below_drew1) | exact HB.out))) : w.heap.size ≤ gb283)); have n3_ := Aside0.mk ((by rw [hg]; exact (below_size (by repeat (first | (with_reducible first | exact HB.out | apply below_alloc | apply pw_below_drewN | apply below_drew1) | exact HB.out))) : w.heap.size ≤ gb283)); clear HB; have HB := n0_; have BK283 := n1_; have GW283 := n2_; have GE283 := n3_; clear n0_ n1_ n2_ n3_; clear hb hbox hg) | ((with_reducible refine gate_dst (N := 3) rfl ?_); (try (refine gate_guard (by rfl) ?_; dsimp only)); refine box_event ?hg (N := 3) ?hd (cs := #[.string a1_0, .string a1_1, .slice A1_2 l1_2.length c1_2, .slice A1_3 l1_3.length c1_3]) (t := 40) ?hr ?_; (case hd => rfl); (case hg => rfl); (case hr => first | (go_simp; done) | (go_simp; rfl)); intro gb284 hg w6 hbox hb; have n0_ := Aside0.mk (blk_below (g := gb283) (o := .cells #[.string a0_0, .string a0_1, .slice A0_2 l0_2.length c0_2, .slice A0_3 l0_3.length c0_3] 40 (0, 0)) (by (with_reducible repeat (first | refine blk_drewN ?_ _ | refine blk_drew ?_ | refine blk_alloc ?_ _)); exact BK283.out) hb); have n1_ := Aside0.mk (below_step (by repeat (first | (with_reducible first | exact HB.out | apply below_alloc | apply pw_below_drewN | apply below_drew1 | refine below_set ?_ GE283.out) | exact HB.out)) hb); have n2_ := Aside0.mk (hbox); have n3_ := Aside0.mk ((by rw [hg]; exact (below_size (by repeat (first | (with_reducible first | exact HB.out | apply below_alloc | apply pw_below_drewN | apply below_drew1 | refine below_set ?_ GE283.out) | exact HB.out))) : w.heap.size ≤ gb284)); have n4_ := Aside0.mk ((by rw [hg]; exact (below_size (by repeat (first | (with_reducible first | exact HB.out | apply below_alloc | apply pw_below_drewN | apply below_drew1 | refine below_set ?_ GE283.out) | exact HB.out))) : w.heap.size ≤ gb284)); have n5_ := Aside0.mk ((by rw [hg]; exact Nat.ne_of_lt (blk_lt (g := gb283) (o := .cells #[.string a0_0, .string a0_1, .slice A0_2 l0_2.length c0_2, .slice A0_3 l0_3.length c0_3] 40 (0, 0)) (by (with_reducible repeat (first | refine blk_drewN ?_ _ | refine blk_drew ?_ | refine blk_alloc ?_ _)); exact BK283.out)) : gb283 ≠ gb284)); have n6_ := Aside0.mk ((by rw [hg]; exact Nat.ne_of_gt (blk_lt (g := gb283) (o := .cells #[.string a0_0, .string a0_1, .slice A0_2 l0_2.length c0_2, .slice A0_3 l0_3.length c0_3] 40 (0, 0)) (by (with_reducible repeat (first | refine blk_drewN ?_ _ | refine blk_drew ?_ | refine blk_alloc ?_ _)); exact BK283.out)) : gb284 ≠ gb283)); clear BK283; clear HB; have BK283 := n0_; have HB := n1_; have BK284 := n2_; have GW284 := n3_; have GE284 := n4_; have NB283_284 := n5_; have NB284_283 := n6_; clear n0_ n1_ n2_ n3_ n4_ n5_ n6_; clear hb hbox hg; have hnb7 := NB283_284.out; have hnc7 := NB284_283.out; have hcz8_0 : w6.cell? ⟨gb283, 0, none⟩ = some (.string a0_0) := (blk_cell BK283.out 0).trans rfl; have hcz8_1 : w6.cell? ⟨gb283, 1, none⟩ = some (.string a0_1) := (blk_cell BK283.out 1).trans rfl; have hcz8_2 : w6.cell? ⟨gb283, 2, none⟩ = some (.slice A0_2 l0_2.length c0_2) := (blk_cell BK283.out 2).trans rfl; have hcz8_3 : w6.cell? ⟨gb283, 3, none⟩ = some (.slice A0_3 l0_3.length c0_3) := (blk_cell BK283.out 3).trans rfl; have hfz8_0 := blk_frozen BK283.out 0; have hfz8_1 := blk_frozen BK283.out 1; have hfz8_2 := blk_frozen BK283.out 2; have hfz8_3 := blk_frozen BK283.out 3; have hcz9_0 : w6.cell? ⟨gb284, 0, none⟩ = some (.string a1_0) := (blk_cell BK284.out 0).trans rfl; have hcz9_1 : w6.cell? ⟨gb284, 1, none⟩ = some (.string a1_1) := (blk_cell BK284.out 1).trans rfl; have hcz9_2 : w6.cell? ⟨gb284, 2, none⟩ = some (.slice A1_2 l1_2.length c1_2) := (blk_cell BK284.out 2).trans rfl; have hcz9_3 : w6.cell? ⟨gb284, 3, none⟩ = some (.slice A1_3 l1_3.length c1_3) := (blk_cell BK284.out 3).trans rfl; have hfz9_0 := blk_frozen BK284.out 0; have hfz9_1 := blk_frozen BK284.out 1; have hfz9_2 := blk_frozen BK284.out 2; have hfz9_3 := blk_frozen BK284.out 3) | (go_at_call 59; (with_reducible refine (registrarref04_TextsG.calls _ _ l0_2 _ _ l1_2 t285 _ ?side1 ?side2 ?side3 ?side4 A3.out).mono ?_); (case side1 => repeat (first | exact (Kd.C_below HR0_2.out HB.out) | (with_reducible refine Kd.C_alloc ?_ _) | (with_reducible refine Kd.C_drewN ?_ _) | (with_reducible refine Kd.C_drew ?_))); (case side2 => exact HC0_2.out); (case side3 => repeat (first | exact (Kd.C_below HR1_2.out HB.out) | (with_reducible refine Kd.C_alloc ?_ _) | (with_reducible refine Kd.C_drewN ?_ _) | (with_reducible refine Kd.C_drew ?_))); (case side4 => exact HC1_2.out); rintro e w' ⟨rfl, ⟨nd, rfl⟩⟩; (try first | exact ⟨rfl, _, World.drewN_drewN _ _ _⟩ | exact ⟨rfl, _, Eq.trans (World.drewN_drewN _ _ _) (congrArg (World.drewN _) (Nat.add_assoc _ _ _))⟩)))
  repeat (go_quiet (first | ((with_reducible refine gate_dst (N := 2) rfl ?_); (try (refine gate_guard (by rfl) ?_; dsimp only)); refine box_event ?hg (N := 2) ?hd (cs := #[.string a0_0, .string a0_1, .slice A0_2 l0_2.length c0_2, .slice A0_3 l0_3.length c0_3]) (t := 40) ?hr ?_; (case hd => rfl); (case hg => rfl); (case hr => first | (go_simp; done) | (go_simp; rfl)); intro gb283 hg w5 hbox hb; have n0_ := Aside0.mk (below_step (by repeat (first | (with_reducible first | exact HB.out | apply below_alloc | apply pw_below_drewN | apply below_drew1) | exact HB.out)) hb); have n1_ := Aside0.mk (hbox); have n2_ := Aside0.mk ((by rw [hg]; exact (below_size (by repeat (first | (with_reducible first | exact HB.out | apply below_alloc | apply pw_below_drewN | apply below_drew1) | exact HB.out))) : w.heap.size ≤ gb283)); have n3_ := Aside0.mk ((by rw [hg]; exact (below_size (by repeat (first | (with_reducible first | exact HB.out | apply below_alloc | apply pw_below_drewN | apply below_drew1) | exact HB.out))) : w.heap.size ≤ gb283)); clear HB; have HB := n0_; have BK283 := n1_; have GW283 := n2_; have GE283 := n3_; clear n0_ n1_ n2_ n3_; clear hb hbox hg) | ((with_reducible refine gate_dst (N := 3) rfl ?_); (try (refine gate_guard (by rfl) ?_; dsimp only)); refine box_event ?hg (N := 3) ?hd (cs := #[.string a1_0, .string a1_1, .slice A1_2 l1_2.length c1_2, .slice A1_3 l1_3.length c1_3]) (t := 40) ?hr ?_; (case hd => rfl); (case hg => rfl); (case hr => first | (go_simp; done) | (go_simp; rfl)); intro gb284 hg w6 hbox hb; have n0_ := Aside0.mk (blk_below (g := gb283) (o := .cells #[.string a0_0, .string a0_1, .slice A0_2 l0_2.length c0_2, .slice A0_3 l0_3.length c0_3] 40 (0, 0)) (by (with_reducible repeat (first | refine blk_drewN ?_ _ | refine blk_drew ?_ | refine blk_alloc ?_ _)); exact BK283.out) hb); have n1_ := Aside0.mk (below_step (by repeat (first | (with_reducible first | exact HB.out | apply below_alloc | apply pw_below_drewN | apply below_drew1 | refine below_set ?_ GE283.out) | exact HB.out)) hb); have n2_ := Aside0.mk (hbox); have n3_ := Aside0.mk ((by rw [hg]; exact (below_size (by repeat (first | (with_reducible first | exact HB.out | apply below_alloc | apply pw_below_drewN | apply below_drew1 | refine below_set ?_ GE283.out) | exact HB.out))) : w.heap.size ≤ gb284)); have n4_ := Aside0.mk ((by rw [hg]; exact (below_size (by repeat (first | (with_reducible first | exact HB.out | apply below_alloc | apply pw_below_drewN | apply below_drew1 | refine below_set ?_ GE283.out) | exact HB.out))) : w.heap.size ≤ gb284)); have n5_ := Aside0.mk ((by rw [hg]; exact Nat.ne_of_lt (blk_lt (g := gb283) (o := .cells #[.string a0_0, .string a0_1, .slice A0_2 l0_2.length c0_2, .slice A0_3 l0_3.length c0_3] 40 (0, 0)) (by (with_reducible repeat (first | refine blk_drewN ?_ _ | refine blk_drew ?_ | refine blk_alloc ?_ _)); exact BK283.out)) : gb283 ≠ gb284)); have n6_ := Aside0.mk ((by rw [hg]; exact Nat.ne_of_gt (blk_lt (g := gb283) (o := .cells #[.string a0_0, .string a0_1, .slice A0_2 l0_2.length c0_2, .slice A0_3 l0_3.length c0_3] 40 (0, 0)) (by (with_reducible repeat (first | refine blk_drewN ?_ _ | refine blk_drew ?_ | refine blk_alloc ?_ _)); exact BK283.out)) : gb284 ≠ gb283)); clear BK283; clear HB; have BK283 := n0_; have HB := n1_; have BK284 := n2_; have GW284 := n3_; have GE284 := n4_; have NB283_284 := n5_; have NB284_283 := n6_; clear n0_ n1_ n2_ n3_ n4_ n5_ n6_; clear hb hbox hg; have hnb7 := NB283_284.out; have hnc7 := NB284_283.out; have hcz8_0 : w6.cell? ⟨gb283, 0, none⟩ = some (.string a0_0) := (blk_cell BK283.out 0).trans rfl; have hcz8_1 : w6.cell? ⟨gb283, 1, none⟩ = some (.string a0_1) := (blk_cell BK283.out 1).trans rfl; have hcz8_2 : w6.cell? ⟨gb283, 2, none⟩ = some (.slice A0_2 l0_2.length c0_2) := (blk_cell BK283.out 2).trans rfl; have hcz8_3 : w6.cell? ⟨gb283, 3, none⟩ = some (.slice A0_3 l0_3.length c0_3) := (blk_cell BK283.out 3).trans rfl; have hfz8_0 := blk_frozen BK283.out 0; have hfz8_1 := blk_frozen BK283.out 1; have hfz8_2 := blk_frozen BK283.out 2; have hfz8_3 := blk_frozen BK283.out 3; have hcz9_0 : w6.cell? ⟨gb284, 0, none⟩ = some (.string a1_0) := (blk_cell BK284.out 0).trans rfl; have hcz9_1 : w6.cell? ⟨gb284, 1, none⟩ = some (.string a1_1) := (blk_cell BK284.out 1).trans rfl; have hcz9_2 : w6.cell? ⟨gb284, 2, none⟩ = some (.slice A1_2 l1_2.length c1_2) := (blk_cell BK284.out 2).trans rfl; have hcz9_3 : w6.cell? ⟨gb284, 3, none⟩ = some (.slice A1_3 l1_3.length c1_3) := (blk_cell BK284.out 3).trans rfl; have hfz9_0 := blk_frozen BK284.out 0; have hfz9_1 := blk_frozen BK284.out 1; have hfz9_2 := blk_frozen BK284.out 2; have hfz9_3 := blk_frozen BK284.out 3) | (go_at_call 59; (with_reducible refine (registrarref04_TextsG.calls _ _ l0_2 _ _ l1_2 t285 _ ?side1 ?side2 ?side3 ?side4 A3.out).mono ?_); (case side1 => repeat (first | exact (Kd.C_below HR0_2.out HB.out) | (with_reducible refine Kd.C_alloc ?_ _) | (with_reducible refine Kd.C_drewN ?_ _) | (with_reducible refine Kd.C_drew ?_))); (case side2 => exact HC0_2.out); (case side3 => repeat (first | exact (Kd.C_below HR1_2.out HB.out) | (with_reducible refine Kd.C_alloc ?_ _) | (with_reducible refine Kd.C_drewN ?_ _) | (with_reducible refine Kd.C_drew ?_))); (case side4 => exact HC1_2.out); rintro e w' ⟨rfl, ⟨nd, rfl⟩⟩; (try first | exact ⟨rfl, _, World.drewN_drewN _ _ _⟩ | exact ⟨rfl, _, Eq.trans (World.drewN_drewN _ _ _) (congrArg (World.drewN _) (Nat.add_assoc _ _ _))⟩))); go_upto_region 2 with (first | ((with_reducible refine gate_dst (N := 2) rfl ?_); (try (refine gate_guard (by rfl) ?_; dsimp only)); refine box_event ?hg (N := 2) ?hd (cs := #[.string a0_0, .string a0_1, .slice A0_2 l0_2.length c0_2, .slice A0_3 l0_3.length c0_3]) (t := 40) ?hr ?_; (case hd => rfl); (case hg => rfl); (case hr => first | (go_simp; done) | (go_simp; rfl)); intro gb283 hg w5 hbox hb; have n0_ := Aside0.mk (below_step (by repeat (first | (with_reducible first | exact HB.out | apply below_alloc | apply pw_below_drewN | apply below_drew1) | exact HB.out)) hb); have n1_ := Aside0.mk (hbox); have n2_ := Aside0.mk ((by rw [hg]; exact (below_size (by repeat (first | (with_reducible first | exact HB.out | apply below_alloc | apply pw_below_drewN | apply below_drew1) | exact HB.out))) : w.heap.size ≤ gb283)); have n3_ := Aside0.mk ((by rw [hg]; exact (below_size (by repeat (first | (with_reducible first | exact HB.out | apply below_alloc | apply pw_below_drewN | apply below_drew1) | exact HB.out))) : w.heap.size ≤ gb283)); clear HB; have HB := n0_; have BK283 := n1_; have GW283 := n2_; have GE283 := n3_; clear n0_ n1_ n2_ n3_; clear hb hbox hg) | ((with_reducible refine gate_dst (N := 3) rfl ?_); (try (refine gate_guard (by rfl) ?_; dsimp only)); refine box_event ?hg (N := 3) ?hd (cs := #[.string a1_0, .string a1_1, .slice A1_2 l1_2.length c1_2, .slice A1_3 l1_3.length c1_3]) (t := 40) ?hr ?_; (case hd => rfl); (case hg => rfl); (case hr => first | (go_simp; done) | (go_simp; rfl)); intro gb284 hg w6 hbox hb; have n0_ := Aside0.mk (blk_below (g := gb283) (o := .cells #[.string a0_0, .string a0_1, .slice A0_2 l0_2.length c0_2, .slice A0_3 l0_3.length c0_3] 40 (0, 0)) (by (with_reducible repeat (first | refine blk_drewN ?_ _ | refine blk_drew ?_ | refine blk_alloc ?_ _)); exact BK283.out) hb); have n1_ := Aside0.mk (below_step (by repeat (first | (with_reducible first | exact HB.out | apply below_alloc | apply pw_below_drewN | apply below_drew1 | refine below_set ?_ GE283.out) | exact HB.out)) hb); have n2_ := Aside0.mk (hbox); have n3_ := Aside0.mk ((by rw [hg]; exact (below_size (by repeat (first | (with_reducible first | exact HB.out | apply below_alloc | apply pw_below_drewN | apply below_drew1 | refine below_set ?_ GE283.out) | exact HB.out))) : w.heap.size ≤ gb284)); have n4_ := Aside0.mk ((by rw [hg]; exact (below_size (by repeat (first | (with_reducible first | exact HB.out | apply below_alloc | apply pw_below_drewN | apply below_drew1 | refine below_set ?_ GE283.out) | exact HB.out))) : w.heap.size ≤ gb284)); have n5_ := Aside0.mk ((by rw [hg]; exact Nat.ne_of_lt (blk_lt (g := gb283) (o := .cells #[.string a0_0, .string a0_1, .slice A0_2 l0_2.length c0_2, .slice A0_3 l0_3.length c0_3] 40 (0, 0)) (by (with_reducible repeat (first | refine blk_drewN ?_ _ | refine blk_drew ?_ | refine blk_alloc ?_ _)); exact BK283.out)) : gb283 ≠ gb284)); have n6_ := Aside0.mk ((by rw [hg]; exact Nat.ne_of_gt (blk_lt (g := gb283) (o := .cells #[.string a0_0, .string a0_1, .slice A0_2 l0_2.length c0_2, .slice A0_3 l0_3.length c0_3] 40 (0, 0)) (by (with_reducible repeat (first | refine blk_drewN ?_ _ | refine blk_drew ?_ | refine blk_alloc ?_ _)); exact BK283.out)) : gb284 ≠ gb283)); clear BK283; clear HB; have BK283 := n0_; have HB := n1_; have BK284 := n2_; have GW284 := n3_; have GE284 := n4_; have NB283_284 := n5_; have NB284_283 := n6_; clear n0_ n1_ n2_ n3_ n4_ n5_ n6_; clear hb hbox hg; have hnb7 := NB283_284.out; have hnc7 := NB284_283.out; have hcz8_0 : w6.cell? ⟨gb283, 0, none⟩ = some (.string a0_0) := (blk_cell BK283.out 0).trans rfl; have hcz8_1 : w6.cell? ⟨gb283, 1, none⟩ = some (.string a0_1) := (blk_cell BK283.out 1).trans rfl; have hcz8_2 : w6.cell? ⟨gb283, 2, none⟩ = some (.slice A0_2 l0_2.length c0_2) := (blk_cell BK283.out 2).trans rfl; have hcz8_3 : w6.cell? ⟨gb283, 3, none⟩ = some (.slice A0_3 l0_3.length c0_3) := (blk_cell BK283.out 3).trans rfl; have hfz8_0 := blk_frozen BK283.out 0; have hfz8_1 := blk_frozen BK283.out 1; have hfz8_2 := blk_frozen BK283.out 2; have hfz8_3 := blk_frozen BK283.out 3; have hcz9_0 : w6.cell? ⟨gb284, 0, none⟩ = some (.string a1_0) := (blk_cell BK284.out 0).trans rfl; have hcz9_1 : w6.cell? ⟨gb284, 1, none⟩ = some (.string a1_1) := (blk_cell BK284.out 1).trans rfl; have hcz9_2 : w6.cell? ⟨gb284, 2, none⟩ = some (.slice A1_2 l1_2.length c1_2) := (blk_cell BK284.out 2).trans rfl; have hcz9_3 : w6.cell? ⟨gb284, 3, none⟩ = some (.slice A1_3 l1_3.length c1_3) := (blk_cell BK284.out 3).trans rfl; have hfz9_0 := blk_frozen BK284.out 0; have hfz9_1 := blk_frozen BK284.out 1; have hfz9_2 := blk_frozen BK284.out 2; have hfz9_3 := blk_frozen BK284.out 3) | (go_at_call 59; (with_reducible refine (registrarref04_TextsG.calls _ _ l0_2 _ _ l1_2 t285 _ ?side1 ?side2 ?side3 ?side4 A3.out).mono ?_); (case side1 => repeat (first | exact (Kd.C_below HR0_2.out HB.out) | (with_reducible refine Kd.C_alloc ?_ _) | (with_reducible refine Kd.C_drewN ?_ _) | (with_reducible refine Kd.C_drew ?_))); (case side2 => exact HC0_2.out); (case side3 => repeat (first | exact (Kd.C_below HR1_2.out HB.out) | (with_reducible refine Kd.C_alloc ?_ _) | (with_reducible refine Kd.C_drewN ?_ _) | (with_reducible refine Kd.C_drew ?_))); (case side4 => exact HC1_2.out); rintro e w' ⟨rfl, ⟨nd, rfl⟩⟩; (try first | exact ⟨rfl, _, World.drewN_drewN _ _ _⟩ | exact ⟨rfl, _, Eq.trans (World.drewN_drewN _ _ _) (congrArg (World.drewN _) (Nat.add_assoc _ _ _))⟩))))
  (try simp only [Act.put, List.setIfInBounds_toArray, List.set_cons_zero, List.set_cons_succ])
  go_cut [36] (fun v36 wc => ∃ (kq : Nat) (x36_3 : Bool), v36 = .bool x36_3 ∧ Aside0 (registrarref04_Same.j0 kq x36_3 a0_0 a0_1 l0_2 l0_3 a1_0 a1_1 l1_2 l1_3 = some r) ∧ Aside0 (kq ≤ k) ∧ Aside0 (wc.heap[gb283]? = some (.cells #[.string a0_0, .string a0_1, (.slice A0_2 l0_2.length c0_2), (.slice A0_3 l0_3.length c0_3)] 40 (0, 0))) ∧ Aside0 (wc.heap[gb284]? = some (.cells #[.string a1_0, .string a1_1, (.slice A1_2 l1_2.length c1_2), (.slice A1_3 l1_3.length c1_3)] 40 (0, 0))) ∧ Aside0 (Below w.heap.size w wc))
  case first =>
    have H := HC4.out
    clear HC4
    by_cases c10 : a0_0.toList = a1_0.toList
    · rw [if_pos c10] at H
      have c10b0 : (a0_0.toList == a1_0.toList) = true := beq_iff_eq.mpr c10
      have c10b1 : (a0_0.toList != a1_0.toList) = false := bne_eq_false_iff_eq.mpr c10
      clear c10
      (first | rw [c10b0] | (simp only [i64_w, i32_w]; rw [c10b0]) | skip)
      by_cases c11 : a0_1.toList = a1_1.toList
      · rw [if_pos c11] at H
        have c11b0 : (a0_1.toList == a1_1.toList) = true := beq_iff_eq.mpr c11
        have c11b1 : (a0_1.toList != a1_1.toList) = false := bne_eq_false_iff_eq.mpr c11
        clear c11
        by_cases c12 : t285 = true
        · subst c12
          have H1 : (registrarref04_Same.j0 k ((l0_3.length : Int) != (l1_3.length : Int)) a0_0 a0_1 l0_2 l0_3 a1_0 a1_1 l1_2 l1_3) = some r := by rw [if_pos rfl] at H; exact H
          clear H
          have H := H1
          clear H1
          have H' := Aside0.mk H
          clear H
          have hnb13 := NB283_284.out
          have hnc13 := NB284_283.out
          have hcz14_0 : w6.cell? ⟨gb283, 0, none⟩ = some (.string a0_0) := (blk_cell BK283.out 0).trans rfl
          have hcz14_1 : w6.cell? ⟨gb283, 1, none⟩ = some (.string a0_1) := (blk_cell BK283.out 1).trans rfl
          have hcz14_2 : w6.cell? ⟨gb283, 2, none⟩ = some (.slice A0_2 l0_2.length c0_2) := (blk_cell BK283.out 2).trans rfl
          have hcz14_3 : w6.cell? ⟨gb283, 3, none⟩ = some (.slice A0_3 l0_3.length c0_3) := (blk_cell BK283.out 3).trans rfl
          have hfz14_0 := blk_frozen BK283.out 0
          have hfz14_1 := blk_frozen BK283.out 1
          have hfz14_2 := blk_frozen BK283.out 2
          have hfz14_3 := blk_frozen BK283.out 3
          have hcz15_0 : w6.cell? ⟨gb284, 0, none⟩ = some (.string a1_0) := (blk_cell BK284.out 0).trans rfl
          have hcz15_1 : w6.cell? ⟨gb284, 1, none⟩ = some (.string a1_1) := (blk_cell BK284.out 1).trans rfl
          have hcz15_2 : w6.cell? ⟨gb284, 2, none⟩ = some (.slice A1_2 l1_2.length c1_2) := (blk_cell BK284.out 2).trans rfl
          have hcz15_3 : w6.cell? ⟨gb284, 3, none⟩ = some (.slice A1_3 l1_3.length c1_3) := (blk_cell BK284.out 3).trans rfl
          have hfz15_0 := blk_frozen BK284.out 0
          have hfz15_1 := blk_frozen BK284.out 1
          have hfz15_2 := blk_frozen BK284.out 2
          have hfz15_3 := blk_frozen BK284.out 3
          go_wp2
          repeat (go_quiet (fail); try go_wp2)
          go_meet
          case rel => exact ⟨_, (((l0_3.length : Int) != (l1_3.length : Int))), (by first | rfl | (simp; done) | (simp [*]; done)), H', ⟨by first | omega | exact Nat.le_refl _⟩, ⟨by (with_reducible repeat (first | refine blk_drewN ?_ _ | refine blk_drew ?_ | refine blk_alloc ?_ _)); exact BK283.out⟩, ⟨by (with_reducible repeat (first | refine blk_drewN ?_ _ | refine blk_drew ?_ | refine blk_alloc ?_ _)); exact BK284.out⟩, ⟨by repeat (first | (with_reducible first | exact HB.out | apply below_alloc | apply pw_below_drewN | apply below_drew1 | refine below_set ?_ GE283.out | refine below_set ?_ GE284.out) | exact HB.out)⟩⟩
        · replace c12 := Bool.eq_false_iff.mpr c12
          subst c12
          have H1 : (registrarref04_Same.j0 k true a0_0 a0_1 l0_2 l0_3 a1_0 a1_1 l1_2 l1_3) = some r := by rw [if_neg (show ¬ (false = true) by decide)] at H; exact H
          clear H
          have H := H1
          clear H1
          have H' := Aside0.mk H
          clear H
          have hnb16 := NB283_284.out
          have hnc16 := NB284_283.out
          have hcz17_0 : w6.cell? ⟨gb283, 0, none⟩ = some (.string a0_0) := (blk_cell BK283.out 0).trans rfl
          have hcz17_1 : w6.cell? ⟨gb283, 1, none⟩ = some (.string a0_1) := (blk_cell BK283.out 1).trans rfl
          have hcz17_2 : w6.cell? ⟨gb283, 2, none⟩ = some (.slice A0_2 l0_2.length c0_2) := (blk_cell BK283.out 2).trans rfl
          have hcz17_3 : w6.cell? ⟨gb283, 3, none⟩ = some (.slice A0_3 l0_3.length c0_3) := (blk_cell BK283.out 3).trans rfl
          have hfz17_0 := blk_frozen BK283.out 0
          have hfz17_1 := blk_frozen BK283.out 1
          have hfz17_2 := blk_frozen BK283.out 2
          have hfz17_3 := blk_frozen BK283.out 3
          have hcz18_0 : w6.cell? ⟨gb284, 0, none⟩ = some (.string a1_0) := (blk_cell BK284.out 0).trans rfl
          have hcz18_1 : w6.cell? ⟨gb284, 1, none⟩ = some (.string a1_1) := (blk_cell BK284.out 1).trans rfl
          have hcz18_2 : w6.cell? ⟨gb284, 2, none⟩ = some (.slice A1_2 l1_2.length c1_2) := (blk_cell BK284.out 2).trans rfl
          have hcz18_3 : w6.cell? ⟨gb284, 3, none⟩ = some (.slice A1_3 l1_3.length c1_3) := (blk_cell BK284.out 3).trans rfl
          have hfz18_0 := blk_frozen BK284.out 0
          have hfz18_1 := blk_frozen BK284.out 1
          have hfz18_2 := blk_frozen BK284.out 2
          have hfz18_3 := blk_frozen BK284.out 3
          go_wp2
          repeat (go_quiet (fail); try go_wp2)
          go_meet
          case rel => exact ⟨_, (true), (by first | rfl | (simp; done) | (simp [*]; done)), H', ⟨by first | omega | exact Nat.le_refl _⟩, ⟨by (with_reducible repeat (first | refine blk_drewN ?_ _ | refine blk_drew ?_ | refine blk_alloc ?_ _)); exact BK283.out⟩, ⟨by (with_reducible repeat (first | refine blk_drewN ?_ _ | refine blk_drew ?_ | refine blk_alloc ?_ _)); exact BK284.out⟩, ⟨by repeat (first | (with_reducible first | exact HB.out | apply below_alloc | apply pw_below_drewN | apply below_drew1 | refine below_set ?_ GE283.out | refine below_set ?_ GE284.out) | exact HB.out)⟩⟩
      · rw [if_neg c11] at H
        have c11b0 : (a0_1.toList == a1_1.toList) = false := beq_eq_false_iff_ne.mpr c11
        have c11b1 : (a0_1.toList != a1_1.toList) = true := bne_iff_ne.mpr c11
        have H' := Aside0.mk H
        clear H
        have hnb19 := NB283_284.out
        have hnc19 := NB284_283.out
        have hcz20_0 : w6.cell? ⟨gb283, 0, none⟩ = some (.string a0_0) := (blk_cell BK283.out 0).trans rfl
        have hcz20_1 : w6.cell? ⟨gb283, 1, none⟩ = some (.string a0_1) := (blk_cell BK283.out 1).trans rfl
        have hcz20_2 : w6.cell? ⟨gb283, 2, none⟩ = some (.slice A0_2 l0_2.length c0_2) := (blk_cell BK283.out 2).trans rfl
        have hcz20_3 : w6.cell? ⟨gb283, 3, none⟩ = some (.slice A0_3 l0_3.length c0_3) := (blk_cell BK283.out 3).trans rfl
        have hfz20_0 := blk_frozen BK283.out 0
        have hfz20_1 := blk_frozen BK283.out 1
        have hfz20_2 := blk_frozen BK283.out 2
        have hfz20_3 := blk_frozen BK283.out 3
        have hcz21_0 : w6.cell? ⟨gb284, 0, none⟩ = some (.string a1_0) := (blk_cell BK284.out 0).trans rfl
        have hcz21_1 : w6.cell? ⟨gb284, 1, none⟩ = some (.string a1_1) := (blk_cell BK284.out 1).trans rfl
        have hcz21_2 : w6.cell? ⟨gb284, 2, none⟩ = some (.slice A1_2 l1_2.length c1_2) := (blk_cell BK284.out 2).trans rfl
        have hcz21_3 : w6.cell? ⟨gb284, 3, none⟩ = some (.slice A1_3 l1_3.length c1_3) := (blk_cell BK284.out 3).trans rfl
        have hfz21_0 := blk_frozen BK284.out 0
        have hfz21_1 := blk_frozen BK284.out 1
        have hfz21_2 := blk_frozen BK284.out 2
        have hfz21_3 := blk_frozen BK284.out 3
        go_wp2
        repeat (go_quiet (fail); try go_wp2)
        go_meet
        case rel => exact ⟨_, (true), (by first | rfl | (simp; done) | (simp [*]; done)), H', ⟨by first | omega | exact Nat.le_refl _⟩, ⟨by (with_reducible repeat (first | refine blk_drewN ?_ _ | refine blk_drew ?_ | refine blk_alloc ?_ _)); exact BK283.out⟩, ⟨by (with_reducible repeat (first | refine blk_drewN ?_ _ | refine blk_drew ?_ | refine blk_alloc ?_ _)); exact BK284.out⟩, ⟨by repeat (first | (with_reducible first | exact HB.out | apply below_alloc | apply pw_below_drewN | apply below_drew1 | refine below_set ?_ GE283.out | refine below_set ?_ GE284.out) | exact HB.out)⟩⟩
    · rw [if_neg c10] at H
      have c10b0 : (a0_0.toList == a1_0.toList) = false := beq_eq_false_iff_ne.mpr c10
      have c10b1 : (a0_0.toList != a1_0.toList) = true := bne_iff_ne.mpr c10
      (first | rw [c10b0] | (simp only [i64_w, i32_w]; rw [c10b0]) | skip)
      have H' := Aside0.mk H
      clear H
      have hnb22 := NB283_284.out
      have hnc22 := NB284_283.out
      have hcz23_0 : w6.cell? ⟨gb283, 0, none⟩ = some (.string a0_0) := (blk_cell BK283.out 0).trans rfl
      have hcz23_1 : w6.cell? ⟨gb283, 1, none⟩ = some (.string a0_1) := (blk_cell BK283.out 1).trans rfl
      have hcz23_2 : w6.cell? ⟨gb283, 2, none⟩ = some (.slice A0_2 l0_2.length c0_2) := (blk_cell BK283.out 2).trans rfl
      have hcz23_3 : w6.cell? ⟨gb283, 3, none⟩ = some (.slice A0_3 l0_3.length c0_3) := (blk_cell BK283.out 3).trans rfl
      have hfz23_0 := blk_frozen BK283.out 0
      have hfz23_1 := blk_frozen BK283.out 1
      have hfz23_2 := blk_frozen BK283.out 2
      have hfz23_3 := blk_frozen BK283.out 3
      have hcz24_0 : w6.cell? ⟨gb284, 0, none⟩ = some (.string a1_0) := (blk_cell BK284.out 0).trans rfl
      have hcz24_1 : w6.cell? ⟨gb284, 1, none⟩ = some (.string a1_1) := (blk_cell BK284.out 1).trans rfl
      have hcz24_2 : w6.cell? ⟨gb284, 2, none⟩ = some (.slice A1_2 l1_2.length c1_2) := (blk_cell BK284.out 2).trans rfl
      have hcz24_3 : w6.cell? ⟨gb284, 3, none⟩ = some (.slice A1_3 l1_3.length c1_3) := (blk_cell BK284.out 3).trans rfl
      have hfz24_0 := blk_frozen BK284.out 0
      have hfz24_1 := blk_frozen BK284.out 1
      have hfz24_2 := blk_frozen BK284.out 2
      have hfz24_3 := blk_frozen BK284.out 3
      go_wp2
      repeat (go_quiet (fail); try go_wp2)
      go_meet
      case rel => exact ⟨_, (true), (by first | rfl | (simp; done) | (simp [*]; done)), H', ⟨by first | omega | exact Nat.le_refl _⟩, ⟨by (with_reducible repeat (first | refine blk_drewN ?_ _ | refine blk_drew ?_ | refine blk_alloc ?_ _)); exact BK283.out⟩, ⟨by (with_reducible repeat (first | refine blk_drewN ?_ _ | refine blk_drew ?_ | refine blk_alloc ?_ _)); exact BK284.out⟩, ⟨by repeat (first | (with_reducible first | exact HB.out | apply below_alloc | apply pw_below_drewN | apply below_drew1 | refine below_set ?_ GE283.out | refine below_set ?_ GE284.out) | exact HB.out)⟩⟩
  case rest =>
    clear HC4
    try clear c1
    try clear c2
    try clear p2
    try clear c4
    try clear c7
    try clear c10
    try clear c10b0
    try clear c10b1
    try clear c11
    try clear c11b0
    try clear c11b1
    try clear c12
    try clear c13
    try clear c16
    try clear c19
    try clear c22
    try clear hcz14_0
    try clear hcz14_1
    try clear hcz14_2
    try clear hcz14_3
    try clear hcz15_0
    try clear hcz15_1
    try clear hcz15_2
    try clear hcz15_3
    try clear hcz17_0
    try clear hcz17_1
    try clear hcz17_2
    try clear hcz17_3
    try clear hcz18_0
    try clear hcz18_1
    try clear hcz18_2
    try clear hcz18_3
    try clear hcz20_0
    try clear hcz20_1
    try clear hcz20_2
    try clear hcz20_3
    try clear hcz21_0
    try clear hcz21_1
    try clear hcz21_2
    try clear hcz21_3
    try clear hcz23_0
    try clear hcz23_1
    try clear hcz23_2
    try clear hcz23_3
    try clear hcz24_0
    try clear hcz24_1
    try clear hcz24_2
    try clear hcz24_3
    try clear hcz8_0
    try clear hcz8_1
    try clear hcz8_2
    try clear hcz8_3
    try clear hcz9_0
    try clear hcz9_1
    try clear hcz9_2
    try clear hcz9_3
    try clear hfz14_0
    try clear hfz14_1
    try clear hfz14_2
    try clear hfz14_3
    try clear hfz15_0
    try clear hfz15_1
    try clear hfz15_2
    try clear hfz15_3
    try clear hfz17_0
    try clear hfz17_1
    try clear hfz17_2
    try clear hfz17_3
    try clear hfz18_0
    try clear hfz18_1
    try clear hfz18_2
    try clear hfz18_3
    try clear hfz20_0
    try clear hfz20_1
    try clear hfz20_2
    try clear hfz20_3
    try clear hfz21_0
    try clear hfz21_1
    try clear hfz21_2
    try clear hfz21_3
    try clear hfz23_0
    try clear hfz23_1
    try clear hfz23_2
    try clear hfz23_3
    try clear hfz24_0
    try clear hfz24_1
    try clear hfz24_2
    try clear hfz24_3
    try clear hfz8_0
    try clear hfz8_1
    try clear hfz8_2
    try clear hfz8_3
    try clear hfz9_0
    try clear hfz9_1
    try clear hfz9_2
    try clear hfz9_3
    obtain ⟨kq, x36_3, rfl, HA, HJ3, BK283, BK284, HB⟩ := hcut
    cases kq with
    | zero => exact absurd HA.out (by simp [registrarref04_Same.j0])
    | succ kj3 =>
      have H := HA.out
      clear HA
      simp only [registrarref04_Same.j0] at H
      by_cases c25 : x36_3 = true
      · subst c25
        have H1 : (some false) = some r := by rw [if_pos rfl] at H; exact H
        clear H
        have H := H1
        clear H1
        obtain rfl := Option.some.inj H
        go_wp2
        repeat (go_quiet (fail); try go_wp2)
        go_ret
        exact ⟨by first | rfl | (simp [errW_none, errW_some] <;> rfl) | (simp [*, errW_none, errW_some] <;> rfl), by repeat (first | (with_reducible first | exact HB.out | apply below_alloc | apply pw_below_drewN | apply below_drew1 | refine below_set ?_ GE283.out | refine below_set ?_ GE284.out) | exact HB.out)⟩
      · replace c25 := Bool.eq_false_iff.mpr c25
        subst c25
        have H1 : (registrarref04_Same.l0 kj3 0 a0_0 a0_1 l0_2 l0_3 a1_0 a1_1 l1_2 l1_3) = some r := by rw [if_neg (show ¬ (false = true) by decide)] at H; exact H
        clear H
        have H := H1
        clear H1
        have H' := Aside0.mk H
        clear H
        go_wp2
        repeat (go_quiet (fail); try go_wp2)
        go_loopg [6] kj3 (fun kq v6 w' => ∃ (x6_2 : Int), v6 = .int .i64 x6_2 ∧ Aside0 (registrarref04_Same.l0 kq x6_2 a0_0 a0_1 l0_2 l0_3 a1_0 a1_1 l1_2 l1_3 = some r) ∧ Aside0 (kq ≤ kj3) ∧ Aside0 (w'.heap[gb283]? = some (.cells #[.string a0_0, .string a0_1, (.slice A0_2 l0_2.length c0_2), (.slice A0_3 l0_3.length c0_3)] 40 (0, 0))) ∧ Aside0 (w'.heap[gb284]? = some (.cells #[.string a1_0, .string a1_1, (.slice A1_2 l1_2.length c1_2), (.slice A1_3 l1_3.length c1_3)] 40 (0, 0))) ∧ Aside0 (Below w.heap.size w w'))
        case atStart => exact ⟨(0), (by first | rfl | (simp; done) | (simp [*]; done)), H', ⟨Nat.le_refl _⟩, ⟨by (with_reducible repeat (first | refine blk_drewN ?_ _ | refine blk_drew ?_ | refine blk_alloc ?_ _)); exact BK283.out⟩, ⟨by (with_reducible repeat (first | refine blk_drewN ?_ _ | refine blk_drew ?_ | refine blk_alloc ?_ _)); exact BK284.out⟩, ⟨by repeat (first | (with_reducible first | exact HB.out | apply below_alloc | apply pw_below_drewN | apply below_drew1 | refine below_set ?_ GE283.out | refine below_set ?_ GE284.out) | exact HB.out)⟩⟩
        case round =>
          clear H'
          try clear c1
          try clear c2
          try clear p2
          try clear c4
          try clear c7
          try clear c10
          try clear c10b0
          try clear c10b1
          try clear c11
          try clear c11b0
          try clear c11b1
          try clear c12
          try clear c13
          try clear c16
          try clear c19
          try clear c22
          try clear c25
          try clear hcz14_0
          try clear hcz14_1
          try clear hcz14_2
          try clear hcz14_3
          try clear hcz15_0
          try clear hcz15_1
          try clear hcz15_2
          try clear hcz15_3
          try clear hcz17_0
          try clear hcz17_1
          try clear hcz17_2
          try clear hcz17_3
          try clear hcz18_0
          try clear hcz18_1
          try clear hcz18_2
          try clear hcz18_3
          try clear hcz20_0
          try clear hcz20_1
          try clear hcz20_2
          try clear hcz20_3
          try clear hcz21_0
          try clear hcz21_1
          try clear hcz21_2
          try clear hcz21_3
          try clear hcz23_0
          try clear hcz23_1
          try clear hcz23_2
          try clear hcz23_3
          try clear hcz24_0
          try clear hcz24_1
          try clear hcz24_2
          try clear hcz24_3
          try clear hcz8_0
          try clear hcz8_1
          try clear hcz8_2
          try clear hcz8_3
          try clear hcz9_0
          try clear hcz9_1
          try clear hcz9_2
          try clear hcz9_3
          try clear hfz14_0
          try clear hfz14_1
          try clear hfz14_2
          try clear hfz14_3
          try clear hfz15_0
          try clear hfz15_1
          try clear hfz15_2
          try clear hfz15_3
          try clear hfz17_0
          try clear hfz17_1
          try clear hfz17_2
          try clear hfz17_3
          try clear hfz18_0
          try clear hfz18_1
          try clear hfz18_2
          try clear hfz18_3
          try clear hfz20_0
          try clear hfz20_1
          try clear hfz20_2
          try clear hfz20_3
          try clear hfz21_0
          try clear hfz21_1
          try clear hfz21_2
          try clear hfz21_3
          try clear hfz23_0
          try clear hfz23_1
          try clear hfz23_2
          try clear hfz23_3
          try clear hfz24_0
          try clear hfz24_1
          try clear hfz24_2
          try clear hfz24_3
          try clear hfz8_0
          try clear hfz8_1
          try clear hfz8_2
          try clear hfz8_3
          try clear hfz9_0
          try clear hfz9_1
          try clear hfz9_2
          try clear hfz9_3
          try clear p2
          obtain ⟨x6_2, rfl, HA, HK2, BK283, BK284, HB⟩ := hrel
          cases gk with
          | zero => exact absurd HA.out (by simp [registrarref04_Same.l0])
          | succ k2 =>
            have H := HA.out
            clear HA
            simp only [registrarref04_Same.l0] at H
            by_cases c26 : x6_2 < (l0_3.length : Int)
            · rw [if_pos c26] at H
              have c26b0 : decide (x6_2 < (l0_3.length : Int)) = true := decide_eq_true c26
              clear c26
              by_cases c27 : 0 ≤ x6_2
              · rw [if_pos c27] at H
                have c27b0 : decide (0 ≤ x6_2) = true := decide_eq_true c27
                clear c27
                by_cases c28 : x6_2 < (l1_3.length : Int)
                · rw [if_pos c28] at H
                  have c28b0 : decide (x6_2 < (l1_3.length : Int)) = true := decide_eq_true c28
                  clear c28
                  by_cases c29 : (!((((rd_T50 l0_3 x6_2).f0).toList) == (((rd_T50 l1_3 x6_2).f0).toList)) || (!(((rd_T50 l0_3 x6_2).f1) == ((rd_T50 l1_3 x6_2).f1)))) = true
                  · rw [if_pos c29] at H
                    have c29b0 : (!((((rd_T50 l0_3 x6_2).f0).toList) == (((rd_T50 l1_3 x6_2).f0).toList)) || (!(((rd_T50 l0_3 x6_2).f1) == ((rd_T50 l1_3 x6_2).f1)))) = true := c29
                    clear c29
                    obtain rfl := Option.some.inj H
                    have hnb30 := NB283_284.out
                    have hnc30 := NB284_283.out
                    have hcz31_0 : wr.cell? ⟨gb283, 0, none⟩ = some (.string a0_0) := (blk_cell BK283.out 0).trans rfl
                    have hcz31_1 : wr.cell? ⟨gb283, 1, none⟩ = some (.string a0_1) := (blk_cell BK283.out 1).trans rfl
                    have hcz31_2 : wr.cell? ⟨gb283, 2, none⟩ = some (.slice A0_2 l0_2.length c0_2) := (blk_cell BK283.out 2).trans rfl
                    have hcz31_3 : wr.cell? ⟨gb283, 3, none⟩ = some (.slice A0_3 l0_3.length c0_3) := (blk_cell BK283.out 3).trans rfl
                    have hfz31_0 := blk_frozen BK283.out 0
                    have hfz31_1 := blk_frozen BK283.out 1
                    have hfz31_2 := blk_frozen BK283.out 2
                    have hfz31_3 := blk_frozen BK283.out 3
                    have p286 : 0 ≤ (x6_2 : Int) := of_decide_eq_true (by first | (with_reducible assumption) | assumption)
                    have q286 : x6_2 < (l0_3.length : Int) := of_decide_eq_true (by first | (with_reducible assumption) | assumption)
                    obtain ⟨ad286, e286, hx286_0, hx286_1⟩ := at_T50 HR0_3.out x6_2 p286 q286
                    cases e286
                    replace hx286_0 := (HB.out.cell (World.block_lt_of_cell? w _ hx286_0)).trans hx286_0
                    replace hx286_1 := (HB.out.cell (World.block_lt_of_cell? w _ hx286_1)).trans hx286_1
                    replace p286 := eq_true p286
                    replace q286 := eq_true q286
                    have hcz32_0 : wr.cell? ⟨gb284, 0, none⟩ = some (.string a1_0) := (blk_cell BK284.out 0).trans rfl
                    have hcz32_1 : wr.cell? ⟨gb284, 1, none⟩ = some (.string a1_1) := (blk_cell BK284.out 1).trans rfl
                    have hcz32_2 : wr.cell? ⟨gb284, 2, none⟩ = some (.slice A1_2 l1_2.length c1_2) := (blk_cell BK284.out 2).trans rfl
                    have hcz32_3 : wr.cell? ⟨gb284, 3, none⟩ = some (.slice A1_3 l1_3.length c1_3) := (blk_cell BK284.out 3).trans rfl
                    have hfz32_0 := blk_frozen BK284.out 0
                    have hfz32_1 := blk_frozen BK284.out 1
                    have hfz32_2 := blk_frozen BK284.out 2
                    have hfz32_3 := blk_frozen BK284.out 3
                    have p287 : 0 ≤ (x6_2 : Int) := of_decide_eq_true (by first | (with_reducible assumption) | assumption)
                    have q287 : x6_2 < (l1_3.length : Int) := of_decide_eq_true (by first | (with_reducible assumption) | assumption)
                    obtain ⟨ad287, e287, hx287_0, hx287_1⟩ := at_T50 HR1_3.out x6_2 p287 q287
                    cases e287
                    replace hx287_0 := (HB.out.cell (World.block_lt_of_cell? w _ hx287_0)).trans hx287_0
                    replace hx287_1 := (HB.out.cell (World.block_lt_of_cell? w _ hx287_1)).trans hx287_1
                    replace p287 := eq_true p287
                    replace q287 := eq_true q287
                    go_wp2
                    repeat (go_quiet (fail); try go_wp2)
                    go_ret
                    exact ⟨by first | rfl | (simp [errW_none, errW_some] <;> rfl) | (simp [*, errW_none, errW_some] <;> rfl), by repeat (first | (with_reducible first | exact HB.out | apply below_alloc | apply pw_below_drewN | apply below_drew1 | refine below_set ?_ GE283.out | refine below_set ?_ GE284.out) | exact HB.out)⟩
                  · rw [if_neg c29] at H
                    have c29b0 : (!((((rd_T50 l0_3 x6_2).f0).toList) == (((rd_T50 l1_3 x6_2).f0).toList)) || (!(((rd_T50 l0_3 x6_2).f1) == ((rd_T50 l1_3 x6_2).f1)))) = false := by simpa using c29
                    clear c29
                    have H' := Aside0.mk H
                    clear H
                    have hnb33 := NB283_284.out
                    have hnc33 := NB284_283.out
                    have hcz34_0 : wr.cell? ⟨gb283, 0, none⟩ = some (.string a0_0) := (blk_cell BK283.out 0).trans rfl
                    have hcz34_1 : wr.cell? ⟨gb283, 1, none⟩ = some (.string a0_1) := (blk_cell BK283.out 1).trans rfl
                    have hcz34_2 : wr.cell? ⟨gb283, 2, none⟩ = some (.slice A0_2 l0_2.length c0_2) := (blk_cell BK283.out 2).trans rfl
                    have hcz34_3 : wr.cell? ⟨gb283, 3, none⟩ = some (.slice A0_3 l0_3.length c0_3) := (blk_cell BK283.out 3).trans rfl
                    have hfz34_0 := blk_frozen BK283.out 0
                    have hfz34_1 := blk_frozen BK283.out 1
                    have hfz34_2 := blk_frozen BK283.out 2
                    have hfz34_3 := blk_frozen BK283.out 3
                    have p286 : 0 ≤ (x6_2 : Int) := of_decide_eq_true (by first | (with_reducible assumption) | assumption)
                    have q286 : x6_2 < (l0_3.length : Int) := of_decide_eq_true (by first | (with_reducible assumption) | assumption)
                    obtain ⟨ad286, e286, hx286_0, hx286_1⟩ := at_T50 HR0_3.out x6_2 p286 q286
                    cases e286
                    replace hx286_0 := (HB.out.cell (World.block_lt_of_cell? w _ hx286_0)).trans hx286_0
                    replace hx286_1 := (HB.out.cell (World.block_lt_of_cell? w _ hx286_1)).trans hx286_1
                    replace p286 := eq_true p286
                    replace q286 := eq_true q286
                    have hcz35_0 : wr.cell? ⟨gb284, 0, none⟩ = some (.string a1_0) := (blk_cell BK284.out 0).trans rfl
                    have hcz35_1 : wr.cell? ⟨gb284, 1, none⟩ = some (.string a1_1) := (blk_cell BK284.out 1).trans rfl
                    have hcz35_2 : wr.cell? ⟨gb284, 2, none⟩ = some (.slice A1_2 l1_2.length c1_2) := (blk_cell BK284.out 2).trans rfl
                    have hcz35_3 : wr.cell? ⟨gb284, 3, none⟩ = some (.slice A1_3 l1_3.length c1_3) := (blk_cell BK284.out 3).trans rfl
                    have hfz35_0 := blk_frozen BK284.out 0
                    have hfz35_1 := blk_frozen BK284.out 1
                    have hfz35_2 := blk_frozen BK284.out 2
                    have hfz35_3 := blk_frozen BK284.out 3
                    have p287 : 0 ≤ (x6_2 : Int) := of_decide_eq_true (by first | (with_reducible assumption) | assumption)
                    have q287 : x6_2 < (l1_3.length : Int) := of_decide_eq_true (by first | (with_reducible assumption) | assumption)
                    obtain ⟨ad287, e287, hx287_0, hx287_1⟩ := at_T50 HR1_3.out x6_2 p287 q287
                    cases e287
                    replace hx287_0 := (HB.out.cell (World.block_lt_of_cell? w _ hx287_0)).trans hx287_0
                    replace hx287_1 := (HB.out.cell (World.block_lt_of_cell? w _ hx287_1)).trans hx287_1
                    replace p287 := eq_true p287
                    replace q287 := eq_true q287
                    go_wp2
                    repeat (go_quiet (fail); try go_wp2)
                    go_roundg k2
                    case measure => have := HJ3.out; have := HK2.out; omega
                    case rel => exact ⟨(wrap64 (x6_2 + 1)), (by first | rfl | (simp; done) | (simp [*]; done)), H', ⟨by have := HJ3.out; have := HK2.out; omega⟩, ⟨by (with_reducible repeat (first | refine blk_drewN ?_ _ | refine blk_drew ?_ | refine blk_alloc ?_ _)); exact BK283.out⟩, ⟨by (with_reducible repeat (first | refine blk_drewN ?_ _ | refine blk_drew ?_ | refine blk_alloc ?_ _)); exact BK284.out⟩, ⟨by repeat (first | (with_reducible first | exact HB.out | apply below_alloc | apply pw_below_drewN | apply below_drew1 | refine below_set ?_ GE283.out | refine below_set ?_ GE284.out) | exact HB.out)⟩⟩
                · rw [if_neg c28] at H
                  exact absurd H (by simp)
              · rw [if_neg c27] at H
                exact absurd H (by simp)
            · rw [if_neg c26] at H
              have c26b0 : decide (x6_2 < (l0_3.length : Int)) = false := decide_eq_false c26
              clear c26
              obtain rfl := Option.some.inj H
              have hnb36 := NB283_284.out
              have hnc36 := NB284_283.out
              have hcz37_0 : wr.cell? ⟨gb283, 0, none⟩ = some (.string a0_0) := (blk_cell BK283.out 0).trans rfl
              have hcz37_1 : wr.cell? ⟨gb283, 1, none⟩ = some (.string a0_1) := (blk_cell BK283.out 1).trans rfl
              have hcz37_2 : wr.cell? ⟨gb283, 2, none⟩ = some (.slice A0_2 l0_2.length c0_2) := (blk_cell BK283.out 2).trans rfl
              have hcz37_3 : wr.cell? ⟨gb283, 3, none⟩ = some (.slice A0_3 l0_3.length c0_3) := (blk_cell BK283.out 3).trans rfl
              have hfz37_0 := blk_frozen BK283.out 0
              have hfz37_1 := blk_frozen BK283.out 1
              have hfz37_2 := blk_frozen BK283.out 2
              have hfz37_3 := blk_frozen BK283.out 3
              go_wp2
              repeat (go_quiet (fail); try go_wp2)
              go_ret
              exact ⟨by first | rfl | (simp [errW_none, errW_some] <;> rfl) | (simp [*, errW_none, errW_some] <;> rfl), by repeat (first | (with_reducible first | exact HB.out | apply below_alloc | apply pw_below_drewN | apply below_drew1 | refine below_set ?_ GE283.out | refine below_set ?_ GE284.out) | exact HB.out)⟩

end Go.Proofs.Ytafeakcajhhkoaa.Prt
namespace Go.Proofs.Ytafeakcajhhkoaa.Prt
open Go.RowKit Go.Proofs.YtafeakcajhhkoaaW.PrintWords Go.Proofs.YtafeakcajhhkoaaW.PrintLast Go.Proofs.YtafeakcajhhkoaaW.PrintMore Go.Proofs.Ytafeakcajhhkoaa.Num Go.Proofs.Ytafeakcajhhkoaa.Nam
set_option linter.unusedVariables false
set_option linter.unusedSimpArgs false

theorem drop_rdF (l : List S50) (i : Nat) (h : i < l.length) : l.drop i = rd_T50 l (i : Int) :: l.drop (i + 1) := by
  rw [List.drop_eq_getElem_cons h]
  unfold rd_T50
  rw [Int.toNat_natCast, List.getD_eq_getElem?_getD, List.getElem?_eq_getElem h]; rfl
theorem rdF_mem {l : List S50} {i : Nat} (h : i < l.length) : rd_T50 l (i : Int) ∈ l := getD_mem' h _
def eqF (x y : S50) : Bool := eqS x.f0 y.f0 && (x.f1 == y.f1)
theorem eqF_iff (x y : S50) : eqF x y = true ↔ x = y := by
  unfold eqF
  rw [Bool.and_eq_true, eqS_iff, beq_iff_eq]
  cases x; cases y; simp
def eqEv (s t : ByteArray) (a : List ByteArray) (f : List S50) (s' t' : ByteArray) (a' : List ByteArray) (f' : List S50) : Bool := eqS s s' && eqS t t' && eqL eqS a a' && eqL eqF f f'
theorem eqEv_iff {s t : ByteArray} {a : List ByteArray} {f : List S50} {s' t' : ByteArray} {a' : List ByteArray} {f' : List S50} : eqEv s t a f s' t' a' f' = true ↔ s = s' ∧ t = t' ∧ a = a' ∧ f = f' := by
  unfold eqEv
  simp only [Bool.and_eq_true, eqS_iff, eqL_iff eqS_iff, eqL_iff eqF_iff, and_assoc]
theorem same_loop (s t s' t' : ByteArray) (a a' : List ByteArray) (f f' : List S50) (hl : f.length ≤ 9223372036854775807) (hff : f.length = f'.length) : ∀ (n i k : Nat), i + n = f.length → n < k → registrarref04_Same.l0 k (i : Int) s t a f s' t' a' f' = some (eqL eqF (f.drop i) (f'.drop i)) := by
  intro n
  induction n with
  | zero =>
    intro i k hi hk
    obtain ⟨k, rfl⟩ : ∃ m, k = m + 1 := ⟨k - 1, by omega⟩
    rw [registrarref04_Same.l0, if_neg (by omega), List.drop_eq_nil_of_le (by omega), List.drop_eq_nil_of_le (by omega)]; rfl
  | succ n ih =>
    intro i k hi hk
    obtain ⟨k, rfl⟩ : ∃ m, k = m + 1 := ⟨k - 1, by omega⟩
    rw [registrarref04_Same.l0, if_pos (by omega), if_pos (by omega), if_pos (by omega), drop_rdF f i (by omega), drop_rdF f' i (by omega), eqL, succW i (by omega), ih (i + 1) k (by omega) (by omega)]
    unfold eqF eqS
    cases ((rd_T50 f (i : Int)).f0.toList == (rd_T50 f' (i : Int)).f0.toList) <;> cases ((rd_T50 f (i : Int)).f1 == (rd_T50 f' (i : Int)).f1) <;> rfl
def registrarref04_SameG.f (a0_0 : ByteArray) (a0_1 : ByteArray) (l0_2 : List ByteArray) (l0_3 : List (S50)) (a1_0 : ByteArray) (a1_1 : ByteArray) (l1_2 : List ByteArray) (l1_3 : List (S50)) : Option (Bool) :=
  if l0_2.length ≤ 9223372036854775807 ∧ l0_3.length ≤ 9223372036854775807 then some (eqEv a0_0 a0_1 l0_2 l0_3 a1_0 a1_1 l1_2 l1_3) else none
theorem registrarref04_SameG.val {a0_0 a0_1 : ByteArray} {l0_2 : List ByteArray} {l0_3 : List (S50)} {a1_0 a1_1 : ByteArray} {l1_2 : List ByteArray} {l1_3 : List (S50)} {r : Bool} (h : registrarref04_SameG.f a0_0 a0_1 l0_2 l0_3 a1_0 a1_1 l1_2 l1_3 = some r) : ∃ k, registrarref04_Same.f k a0_0 a0_1 l0_2 l0_3 a1_0 a1_1 l1_2 l1_3 = some r := by
  unfold registrarref04_SameG.f at h
  by_cases hc : l0_2.length ≤ 9223372036854775807 ∧ l0_3.length ≤ 9223372036854775807
  · rw [if_pos hc] at h
    obtain rfl := Option.some.inj h
    have m1 : registrarref04_TextsG.f l0_2 l1_2 = some (eqL eqS l0_2 l1_2) := if_pos hc.1
    have j0t : ∀ k, registrarref04_Same.j0 (k + 1) true a0_0 a0_1 l0_2 l0_3 a1_0 a1_1 l1_2 l1_3 = some false := fun k => by rw [registrarref04_Same.j0, if_pos rfl]
    refine ⟨l0_3.length + 3, ?_⟩
    unfold registrarref04_Same.f
    rw [m1]
    simp only [Option.bind_some]
    have e1 : eqS a0_0 a1_0 = decide (a0_0.toList = a1_0.toList) := by unfold eqS; rw [Bool.eq_iff_iff, beq_iff_eq, decide_eq_true_iff]
    have e2 : eqS a0_1 a1_1 = decide (a0_1.toList = a1_1.toList) := by unfold eqS; rw [Bool.eq_iff_iff, beq_iff_eq, decide_eq_true_iff]
    unfold eqEv
    rw [e1, e2]
    by_cases g1 : a0_0.toList = a1_0.toList
    · rw [if_pos g1, decide_eq_true g1]
      by_cases g2 : a0_1.toList = a1_1.toList
      · rw [if_pos g2, decide_eq_true g2]
        cases eqL eqS l0_2 l1_2 with
        | false => rw [if_neg (by decide), j0t]; rfl
        | true =>
          rw [if_pos rfl, registrarref04_Same.j0]
          by_cases g3 : l0_3.length = l1_3.length
          · rw [if_neg (by rw [bne_iff_ne]; omega)]
            have := same_loop a0_0 a0_1 a1_0 a1_1 l0_2 l1_2 l0_3 l1_3 hc.2 g3 l0_3.length 0 (l0_3.length + 2) (by omega) (by omega)
            rw [List.drop_zero, List.drop_zero] at this
            exact this
          · rw [if_pos (by rw [bne_iff_ne]; omega), eqL_len _ _ g3]; rfl
      · rw [if_neg g2, decide_eq_false g2, j0t, Bool.and_false]; rfl
    · rw [if_neg g1, decide_eq_false g1, j0t]; rfl
  · rw [if_neg hc] at h; cases h
theorem registrarref04_SameG.calls (a0_0 : ByteArray) (a0_1 : ByteArray) (A0_2 : Option Addr) (c0_2 : Nat) (l0_2 : List ByteArray) (A0_3 : Option Addr) (c0_3 : Nat) (l0_3 : List (S50)) (a1_0 : ByteArray) (a1_1 : ByteArray) (A1_2 : Option Addr) (c1_2 : Nat) (l1_2 : List ByteArray) (A1_3 : Option Addr) (c1_3 : Nat) (l1_3 : List (S50)) (r : Bool) (w : World) (hr0_2 : Kd.C Kd.string w A0_2 l0_2.length l0_2) (hc0_2 : l0_2.length ≤ c0_2) (hr0_3 : Kd.C k50 w A0_3 l0_3.length l0_3) (hc0_3 : l0_3.length ≤ c0_3) (hr1_2 : Kd.C Kd.string w A1_2 l1_2.length l1_2) (hc1_2 : l1_2.length ≤ c1_2) (hr1_3 : Kd.C k50 w A1_3 l1_3.length l1_3) (hc1_3 : l1_3.length ≤ c1_3) (h : registrarref04_SameG.f a0_0 a0_1 l0_2 l0_3 a1_0 a1_1 l1_2 l1_3 = some r) :
    Calls Try.prog 46 #[.agg #[.string a0_0, .string a0_1, .slice A0_2 l0_2.length c0_2, .slice A0_3 l0_3.length c0_3], .agg #[.string a1_0, .string a1_1, .slice A1_2 l1_2.length c1_2, .slice A1_3 l1_3.length c1_3]] w fun e w' => e = .returned (.bool r) ∧ Below w.heap.size w w' := by
  obtain ⟨k, hk⟩ := registrarref04_SameG.val h
  exact registrarref04_Same.calls k a0_0 a0_1 A0_2 c0_2 l0_2 A0_3 c0_3 l0_3 a1_0 a1_1 A1_2 c1_2 l1_2 A1_3 c1_3 l1_3 r w hr0_2 hc0_2 hr0_3 hc0_3 hr1_2 hc1_2 hr1_3 hc1_3 hk
end Go.Proofs.Ytafeakcajhhkoaa.Prt
namespace Go.Proofs.Ytafeakcajhhkoaa.Prt
open Go.RowKit Go.Proofs.YtafeakcajhhkoaaW.PrintWords Go.Proofs.YtafeakcajhhkoaaW.PrintLast Go.Proofs.YtafeakcajhhkoaaW.PrintMore Go.Proofs.Ytafeakcajhhkoaa.Num
set_option linter.unusedVariables false
set_option linter.unusedSimpArgs false

def num_Put.f (l0 : List Int) (a1 : Int) : Option (List Int) := if l0.length ≤ 140737488350000 ∧ -9223372036854775808 ≤ a1 ∧ a1 ≤ 9223372036854775807 then some (l0 ++ enc a1) else none
theorem num_Put.calls (A0 : Option Addr) (c0 : Nat) (l0 : List Int) (a1 : Int) (r : List Int) (w : World) (hr0 : Kd.C (Kd.int .u8) w A0 l0.length l0) (hc0 : l0.length ≤ c0) (h : num_Put.f l0 a1 = some r) :
    Calls Try.prog 20 #[.slice A0 l0.length c0, .int .i64 a1] w fun e w' => ∃ v0_ : Value, e = .returned (v0_) ∧ Kd.R (Kd.int .u8) 5 w' w.heap.size (fun _ => True) v0_ r ∧ Below w.heap.size w w' := by
  unfold num_Put.f at h
  by_cases hc : l0.length ≤ 140737488350000 ∧ -9223372036854775808 ≤ a1 ∧ a1 ≤ 9223372036854775807
  · rw [if_pos hc] at h
    obtain rfl := Option.some.inj h
    exact put_calls A0 c0 l0 a1 w hr0 hc0 hc.2.1 hc.2.2 hc.1
  · rw [if_neg hc] at h; cases h
def num_PutText.f (l0 : List Int) (a1 : ByteArray) : Option (List Int) := if l0.length + a1.size ≤ 140737488349000 then some (l0 ++ encT (bytesOf a1)) else none
theorem num_PutText.calls (A0 : Option Addr) (c0 : Nat) (l0 : List Int) (a1 : ByteArray) (r : List Int) (w : World) (hr0 : Kd.C (Kd.int .u8) w A0 l0.length l0) (hc0 : l0.length ≤ c0) (h : num_PutText.f l0 a1 = some r) :
    Calls Try.prog 25 #[.slice A0 l0.length c0, .string a1] w fun e w' => ∃ v0_ : Value, e = .returned (v0_) ∧ Kd.R (Kd.int .u8) 5 w' w.heap.size (fun _ => True) v0_ r ∧ Below w.heap.size w w' := by
  unfold num_PutText.f at h
  by_cases hc : l0.length + a1.size ≤ 140737488349000
  · rw [if_pos hc] at h
    obtain rfl := Option.some.inj h
    exact putText_calls A0 c0 l0 a1 w hr0 hc0 hc
  · rw [if_neg hc] at h; cases h
end Go.Proofs.Ytafeakcajhhkoaa.Prt
namespace Go.Proofs.Ytafeakcajhhkoaa.Prt
open Go.RowKit Go.Proofs.YtafeakcajhhkoaaW.PrintWords Go.Proofs.YtafeakcajhhkoaaW.PrintLast Go.Proofs.YtafeakcajhhkoaaW.PrintMore
attribute [local go_sem] max2_int min2_int max_two min_two max_three min_three max_four min_four   -- for this text's walks alone
set_option linter.unusedVariables false
set_option linter.unusedSimpArgs false

mutual
def evcode_Put.l0 : Nat → List Int → List ByteArray → Int → Int → ByteArray → ByteArray → List ByteArray → List (S50) → Option (List Int × Int)
  | 0, _, _, _, _, _, _, _, _ => none
  | k + 1, x7, x30, x31, x32, x110000, x110001, x110002, x110003 => if x32 < x31 then (if 0 ≤ x32 then (if x32 < (x30.length : Int) then ((num_PutText.f x7 (rdOf ByteArray.empty x30 x32)).bind fun t121 => (evcode_Put.l0 k t121 x30 x31 (wrap64 (x32 + 1)) x110000 x110001 x110002 x110003)) else (none)) else (none)) else ((num_Put.f x7 (x110003.length : Int)).bind fun t124 => (evcode_Put.l1 k t124 x110003 (x110003.length : Int) 0))
def evcode_Put.l1 : Nat → List Int → List (S50) → Int → Int → Option (List Int × Int)
  | 0, _, _, _, _ => none
  | k + 1, x7, x46, x47, x48 => if x48 < x47 then (if 0 ≤ x48 then (if x48 < (x46.length : Int) then ((num_PutText.f x7 ((rd_T50 x46 x48).f0)).bind fun t129 => ((num_Put.f t129 ((rd_T50 x46 x48).f1)).bind fun t132 => (evcode_Put.l1 k t132 x46 x47 (wrap64 (x48 + 1))))) else (none)) else (none)) else (some (x7, 0))
end
def evcode_Put.f (k : Nat) (l0 : List Int) (a1_0 : ByteArray) (a1_1 : ByteArray) (l1_2 : List ByteArray) (l1_3 : List (S50)) : Option (List Int × Int) := (event_May.f a1_0 a1_1 l1_2 l1_3).bind fun t110 => (if t110 = 0 then ((num_PutText.f l0 a1_0).bind fun t111 => ((num_PutText.f t111 a1_1).bind fun t114 => ((num_Put.f t114 (l1_2.length : Int)).bind fun t117 => (evcode_Put.l0 k t117 l1_2 (l1_2.length : Int) 0 a1_0 a1_1 l1_2 l1_3)))) else (some (([] : List Int), t110)))
def evcode_Put.T4 : Bool × List (List Nat × List Nat) := (true, [([], []), ([], []), ([1], [1]), ([0, 2], [0, 2]), ([], []), ([4], [4]), ([3, 5, 3], [3, 5]), ([6, 6, 0, 1, 2, 3, 4, 5, 6], [6])])
def evcode_Put.B4 : List Nat := [0, 0, 2, 7, 0, 16, 63, 127]
theorem evcode_Put.tab4 : rtab .any (opsOf Try.f17 4) = evcode_Put.T4 := by kernel_rfl
theorem evcode_Put.bits4 : waitsOk evcode_Put.T4.2 evcode_Put.B4 = true := by kernel_rfl
def evcode_Put.T15 : Bool × List (List Nat × List Nat) := (true, [([], []), ([], []), ([1], [1]), ([0, 2], [0, 2]), ([], []), ([4], [4]), ([3, 5, 3], [3, 5]), ([6, 6, 0, 1, 2, 3, 4, 5, 6], [0, 6])])
def evcode_Put.B15 : List Nat := [0, 0, 2, 7, 0, 16, 63, 127]
theorem evcode_Put.tab15 : rtab .any (opsOf Try.f17 15) = evcode_Put.T15 := by kernel_rfl
theorem evcode_Put.bits15 : waitsOk evcode_Put.T15.2 evcode_Put.B15 = true := by kernel_rfl
set_option maxHeartbeats 8000000 in
set_option maxRecDepth 100000 in
theorem evcode_Put.calls (k : Nat) (A0 : Option Addr) (c0 : Nat) (l0 : List Int) (a1_0 : ByteArray) (a1_1 : ByteArray) (A1_2 : Option Addr) (c1_2 : Nat) (l1_2 : List ByteArray) (A1_3 : Option Addr) (c1_3 : Nat) (l1_3 : List (S50)) (r1 : List Int) (r2 : Int) (w : World) (hr0 : Kd.C (Kd.int .u8) w A0 l0.length l0) (hc0 : l0.length ≤ c0) (hr1_2 : Kd.C Kd.string w A1_2 l1_2.length l1_2) (hc1_2 : l1_2.length ≤ c1_2) (hr1_3 : Kd.C k50 w A1_3 l1_3.length l1_3) (hc1_3 : l1_3.length ≤ c1_3) (h : evcode_Put.f k l0 a1_0 a1_1 l1_2 l1_3 = some (r1, r2)) :
    Calls Try.prog 17 #[.slice A0 l0.length c0, .agg #[.string a1_0, .string a1_1, .slice A1_2 l1_2.length c1_2, .slice A1_3 l1_3.length c1_3]] w fun e w' => ∃ v0_ : Value, e = .returned (.tuple #[v0_, .int .i64 r2]) ∧ Kd.R (Kd.int .u8) 5 w' w.heap.size (fun _ => True) v0_ r1 ∧ Below w.heap.size w w' := by
  have hu40 := Try.underlying40
  have hu50 := Try.underlying50
  have HR0 := Aside0.mk hr0
  have HC0 := Aside0.mk hc0
  clear hr0 hc0
  have HR1_2 := Aside0.mk hr1_2
  have HC1_2 := Aside0.mk hc1_2
  clear hr1_2 hc1_2
  have HR1_3 := Aside0.mk hr1_3
  have HC1_3 := Aside0.mk hc1_3
  clear hr1_3 hc1_3
  have HB := Aside0.mk (Below.refl w.heap.size w)
  have H : ((event_May.f a1_0 a1_1 l1_2 l1_3).bind fun t110 => (if t110 = 0 then ((num_PutText.f l0 a1_0).bind fun t111 => ((num_PutText.f t111 a1_1).bind fun t114 => ((num_Put.f t114 (l1_2.length : Int)).bind fun t117 => (evcode_Put.l0 k t117 l1_2 (l1_2.length : Int) 0 a1_0 a1_1 l1_2 l1_3)))) else (some (([] : List Int), t110)))) = some (r1, r2) := h
  clear h
  replace H := Option.bind_eq_some_iff.mp H
  obtain ⟨t110, A30, H⟩ := H
  replace H : (if t110 = 0 then ((num_PutText.f l0 a1_0).bind fun t111 => ((num_PutText.f t111 a1_1).bind fun t114 => ((num_Put.f t114 (l1_2.length : Int)).bind fun t117 => (evcode_Put.l0 k t117 l1_2 (l1_2.length : Int) 0 a1_0 a1_1 l1_2 l1_3)))) else (some (([] : List Int), t110))) = some (r1, r2) := H
  have A3 := Aside0.mk A30
  clear A30
  by_cases c4 : t110 = 0
  · rw [if_pos c4] at H
    have c4b0 : (t110 == 0) = true := beq_iff_eq.mpr c4
    have c4b1 : (t110 != 0) = false := bne_eq_false_iff_eq.mpr c4
    clear c4
    replace H := Option.bind_eq_some_iff.mp H
    obtain ⟨t111, A50, H⟩ := H
    replace H : ((num_PutText.f t111 a1_1).bind fun t114 => ((num_Put.f t114 (l1_2.length : Int)).bind fun t117 => (evcode_Put.l0 k t117 l1_2 (l1_2.length : Int) 0 a1_0 a1_1 l1_2 l1_3))) = some (r1, r2) := H
    have A5 := Aside0.mk A50
    clear A50
    replace H := Option.bind_eq_some_iff.mp H
    obtain ⟨t114, A60, H⟩ := H
    replace H : ((num_Put.f t114 (l1_2.length : Int)).bind fun t117 => (evcode_Put.l0 k t117 l1_2 (l1_2.length : Int) 0 a1_0 a1_1 l1_2 l1_3)) = some (r1, r2) := H
    have A6 := Aside0.mk A60
    clear A60
    replace H := Option.bind_eq_some_iff.mp H
    obtain ⟨t117, A70, H⟩ := H
    replace H : (evcode_Put.l0 k t117 l1_2 (l1_2.length : Int) 0 a1_0 a1_1 l1_2 l1_3) = some (r1, r2) := H
    have A7 := Aside0.mk A70
    clear A70
    have H' := Aside0.mk H
    clear H
    go_enter Try.func17, Try.ntmps17
    try go_wp2_with (first | ((with_reducible refine gate_dst (N := 3) rfl ?_); refine box_event ?hg (N := 3) ?hd (cs := #[.string a1_0, .string a1_1, .slice A1_2 l1_2.length c1_2, .slice A1_3 l1_3.length c1_3]) (t := 40) ?hr ?_; (case hd => rfl); (case hg => rfl); (case hr => first | (go_simp; done) | (go_simp; rfl)); intro gb109 hg w8 hbox hb; have n0_ := Aside0.mk (below_step (by repeat (first | (with_reducible first | exact HB.out | apply below_alloc | apply pw_below_drewN | apply below_drew1) | exact HB.out)) hb); have n1_ := Aside0.mk (hbox); have n2_ := Aside0.mk ((by rw [hg]; exact (below_size (by repeat (first | (with_reducible first | exact HB.out | apply below_alloc | apply pw_below_drewN | apply below_drew1) | exact HB.out))) : w.heap.size ≤ gb109)); have n3_ := Aside0.mk ((by rw [hg]; exact (below_size (by repeat (first | (with_reducible first | exact HB.out | apply below_alloc | apply pw_below_drewN | apply below_drew1) | exact HB.out))) : w.heap.size ≤ gb109)); clear HB; have HB := n0_; have BK109 := n1_; have GW109 := n2_; have GE109 := n3_; clear n0_ n1_ n2_ n3_; clear hb hbox hg; have hcz9_0 : w8.cell? ⟨gb109, 0, none⟩ = some (.string a1_0) := (blk_cell BK109.out 0).trans rfl; have hcz9_1 : w8.cell? ⟨gb109, 1, none⟩ = some (.string a1_1) := (blk_cell BK109.out 1).trans rfl; have hcz9_2 : w8.cell? ⟨gb109, 2, none⟩ = some (.slice A1_2 l1_2.length c1_2) := (blk_cell BK109.out 2).trans rfl; have hcz9_3 : w8.cell? ⟨gb109, 3, none⟩ = some (.slice A1_3 l1_3.length c1_3) := (blk_cell BK109.out 3).trans rfl; have hfz9_0 := blk_frozen BK109.out 0; have hfz9_1 := blk_frozen BK109.out 1; have hfz9_2 := blk_frozen BK109.out 2; have hfz9_3 := blk_frozen BK109.out 3) | ((with_reducible refine gate_callee (f := 22) rfl ?_); refine goesL_ (some 13) rfl rfl Try.func22 (by kernel_rfl) rfl #[.agg #[.string a1_0, .string a1_1, .slice A1_2 l1_2.length c1_2, .slice A1_3 l1_3.length c1_3]] rfl (by (try simp only [List.map_toArray, List.map_cons, List.map_nil]); first | done | rfl | (simp only [List.length_drop, List.length_take]; rfl)) ?_; (with_reducible refine (event_May.calls a1_0 a1_1 _ _ l1_2 _ _ l1_3 t110 _ ?side1 ?side2 ?side3 ?side4 A3.out).mono ?_); (case side1 => repeat (first | exact (Kd.C_below HR1_2.out HB.out) | (with_reducible refine Kd.C_alloc ?_ _) | (with_reducible refine Kd.C_drewN ?_ _) | (with_reducible refine Kd.C_drew ?_))); (case side2 => exact HC1_2.out); (case side3 => repeat (first | exact (Kd.C_below HR1_3.out HB.out) | (with_reducible refine Kd.C_alloc ?_ _) | (with_reducible refine Kd.C_drewN ?_ _) | (with_reducible refine Kd.C_drew ?_))); (case side4 => exact HC1_3.out); rintro e w10 ⟨rfl, hb⟩; refine ⟨_, rfl, ?_⟩; have n0_ := Aside0.mk (blk_below (g := gb109) (o := .cells #[.string a1_0, .string a1_1, .slice A1_2 l1_2.length c1_2, .slice A1_3 l1_3.length c1_3] 40 (0, 0)) (by (with_reducible repeat (first | refine blk_drewN ?_ _ | refine blk_drew ?_ | refine blk_alloc ?_ _)); exact BK109.out) hb); have n1_ := Aside0.mk (below_step (by repeat (first | (with_reducible first | exact HB.out | apply below_alloc | apply pw_below_drewN | apply below_drew1 | refine below_set ?_ GE109.out) | exact HB.out)) hb); clear BK109; clear HB; have BK109 := n0_; have HB := n1_; clear n0_ n1_; (try clear hb); (try clear hb2); (try clear hk); (try clear hi)))
    have n0_ := Aside0.mk (blk_drew BK109.out)
    have n1_ := Aside0.mk (below_drew1 HB.out)
    clear BK109
    clear HB
    have BK109 := n0_
    have HB := n1_
    clear n0_ n1_
    refine start_ (n := 8) (S := fun w' => w'.cell? ⟨gb109, 0, none⟩ = some (.string a1_0) ∧ w'.cell? ⟨gb109, 1, none⟩ = some (.string a1_1) ∧ w'.cell? ⟨gb109, 2, none⟩ = some (.slice A1_2 l1_2.length c1_2) ∧ w'.cell? ⟨gb109, 3, none⟩ = some (.slice A1_3 l1_3.length c1_3)) (ds := []) #[false, false, false, false, false, false, false, false] (by kernel_rfl) rfl rfl ⟨(blk_cell BK109.out 0).trans rfl, (blk_cell BK109.out 1).trans rfl, (blk_cell BK109.out 2).trans rfl, (blk_cell BK109.out 3).trans rfl⟩ (fun hHeld => ?_); refine with_tabW evcode_Put.tab4 evcode_Put.bits4 (fun HT_ HW_ => ?_)
    generalize w10.drew = w11 at BK109 HB hHeld ⊢
    refine pure_ (i := 0) (N := some 17) (v := ?_) (a' := ?_) #[true, false, false, false, false, false, false, false] rfl rfl (any_of HT_.out (by kernel_rfl)) (fun _ _ _ h => h) (Or.inl ⟨by rfl, ?_⟩) ?_ ?_
    rotate_left
    · intro w'
      go_simp
      with_reducible rfl
    rotate_left
    · simp only [Act.put, List.setIfInBounds_toArray, List.set_cons_zero, List.set_cons_succ, i64_w, i32_w]
      rfl
    refine pure_ (i := 1) (N := some 18) (v := ?_) (a' := ?_) #[true, true, false, false, false, false, false, false] rfl rfl (any_of HT_.out (by kernel_rfl)) (fun _ _ _ h => h) (Or.inl ⟨by rfl, ?_⟩) ?_ ?_
    rotate_left
    · intro w'
      go_simp
      with_reducible rfl
    rotate_left
    · simp only [Act.put, List.setIfInBounds_toArray, List.set_cons_zero, List.set_cons_succ, i64_w, i32_w]
      rfl
    refine pure_ (i := 4) (N := some 21) (v := ?_) (a' := ?_) #[true, true, false, false, true, false, false, false] rfl rfl (any_of HT_.out (by kernel_rfl)) (fun _ _ _ h => h) (Or.inl ⟨by rfl, ?_⟩) ?_ ?_
    rotate_left
    · intro w'
      go_simp
      with_reducible rfl
    rotate_left
    · simp only [Act.put, List.setIfInBounds_toArray, List.set_cons_zero, List.set_cons_succ, i64_w, i32_w]
      rfl
    refine take_ (i := 2) (N := some 19) (v := ?_) (a' := ?_) #[true, true, true, false, true, false, false, false] rfl rfl (take_ofW HT_.out HW_.out (by kernel_rfl)) (fun _ _ _ h => h) (Or.inl ⟨by rfl, ?_⟩) hHeld ?_ ?_
    rotate_left
    · rintro w' ⟨s0, s1, s2, s3⟩
      go_simp
      with_reducible rfl
    rotate_left
    · simp only [Act.put, List.setIfInBounds_toArray, List.set_cons_zero, List.set_cons_succ, i64_w, i32_w]
      rfl
    refine take_ (i := 5) (N := some 22) (v := ?_) (a' := ?_) #[true, true, true, false, true, true, false, false] rfl rfl (take_ofW HT_.out HW_.out (by kernel_rfl)) (fun _ _ _ h => h) (Or.inl ⟨by rfl, ?_⟩) hHeld ?_ ?_
    rotate_left
    · rintro w' ⟨s0, s1, s2, s3⟩
      go_simp
      with_reducible rfl
    rotate_left
    · simp only [Act.put, List.setIfInBounds_toArray, List.set_cons_zero, List.set_cons_succ, i64_w, i32_w]
      rfl
    refine one_ (i := 3) (N := some 20) #[true, true, true, true, true, true, false, false] rfl rfl (one_of HT_.out (by kernel_rfl)) (by decide) (fun K hK => ?_)
    refine goes_ Try.func25 (by kernel_rfl) rfl #[.slice A0 l0.length c0, .string a1_0] (by rfl) rfl rfl (by (try simp only [List.map_toArray, List.map_cons, List.map_nil]); first | done | rfl | (simp only [List.length_drop, List.length_take]; rfl)) ?_
    with_reducible refine (num_PutText.calls _ _ l0 a1_0 t111 _ ?side1 ?side2 A5.out).mono ?_
    (case side1 => repeat (first | exact (Kd.C_below HR0.out HB.out) | (with_reducible refine Kd.C_alloc ?_ _) | (with_reducible refine Kd.C_drewN ?_ _) | (with_reducible refine Kd.C_drew ?_)))
    (case side2 => exact HC0.out)
    rintro e w12 ⟨v112, rfl, ho0, hb⟩
    refine ⟨_, rfl, ?_⟩
    have n0_ := Aside0.mk (Kd.R_lower ho0 (below_size (by repeat (first | (with_reducible first | exact HB.out | apply below_alloc | apply pw_below_drewN | apply below_drew1 | refine below_set ?_ GE109.out) | exact HB.out))))
    have n1_ := Aside0.mk (blk_below (g := gb109) (o := .cells #[.string a1_0, .string a1_1, .slice A1_2 l1_2.length c1_2, .slice A1_3 l1_3.length c1_3] 40 (0, 0)) (by (with_reducible repeat (first | refine blk_drewN ?_ _ | refine blk_drew ?_ | refine blk_alloc ?_ _)); exact BK109.out) hb)
    have n2_ := Aside0.mk (below_step (by repeat (first | (with_reducible first | exact HB.out | apply below_alloc | apply pw_below_drewN | apply below_drew1 | refine below_set ?_ GE109.out) | exact HB.out)) hb)
    clear BK109
    clear HB
    have HO113 := n0_
    have BK109 := n1_
    have HB := n2_
    clear n0_ n1_ n2_
    (try clear hb)
    (try clear hb2)
    (try clear hk)
    (try clear hi)
    (try clear ho0)
    obtain ⟨Ao13, co13, eo13⟩ := Kd.R_slice HO113.out
    (first | subst eo13 | (injection eo13 with f1_ f2_ f3_; have f4_ := f1_.symm; have f5_ := f3_.symm; clear f1_ f2_ f3_; subst f4_; subst f5_))
    refine hK.out _ _ ⟨(blk_cell BK109.out 0).trans rfl, (blk_cell BK109.out 1).trans rfl, (blk_cell BK109.out 2).trans rfl, (blk_cell BK109.out 3).trans rfl⟩ (fun hHeld => ?_)
    clear hK K
    refine norm_ (a' := ?_) ?_ ?_
    rotate_left
    · show Act.put _ (some 20) _ = _
      simp only [Act.put, List.setIfInBounds_toArray, List.set_cons_zero, List.set_cons_succ, i64_w, i32_w]
      rfl
    refine one_ (i := 6) (N := some 23) #[true, true, true, true, true, true, true, false] rfl rfl (one_of HT_.out (by kernel_rfl)) (by decide) (fun K hK => ?_)
    refine goes_ Try.func25 (by kernel_rfl) rfl #[.slice Ao13 t111.length co13, .string a1_1] (by rfl) rfl rfl (by (try simp only [List.map_toArray, List.map_cons, List.map_nil]); first | done | rfl | (simp only [List.length_drop, List.length_take]; rfl)) ?_
    with_reducible refine (num_PutText.calls _ _ t111 a1_1 t114 _ ?side1 ?side2 A6.out).mono ?_
    (case side1 => repeat (first | exact (Kd.R_reads' HO113.out).2.2 | (with_reducible refine Kd.C_alloc ?_ _) | (with_reducible refine Kd.C_drewN ?_ _) | (with_reducible refine Kd.C_drew ?_)))
    (case side2 => exact (Kd.R_reads' HO113.out).2.1)
    rintro e w14 ⟨v115, rfl, ho0, hb⟩
    refine ⟨_, rfl, ?_⟩
    have n0_ := Aside0.mk (Kd.R_elder' (by (with_reducible repeat (first | apply Kd.R_alloc | apply Kd.R_drewN | apply Kd.R_drew)); exact HO113.out) (Kd.R_base ho0) hb)
    have n1_ := Aside0.mk (Kd.R_lower (Kd.R_new' ho0 (Kd.R_lt (by (with_reducible repeat (first | apply Kd.R_alloc | apply Kd.R_drewN | apply Kd.R_drew)); exact HO113.out))) (below_size (by repeat (first | (with_reducible first | exact HB.out | apply below_alloc | apply pw_below_drewN | apply below_drew1 | refine below_set ?_ GE109.out) | exact HB.out))))
    have n2_ := Aside0.mk (blk_below (g := gb109) (o := .cells #[.string a1_0, .string a1_1, .slice A1_2 l1_2.length c1_2, .slice A1_3 l1_3.length c1_3] 40 (0, 0)) (by (with_reducible repeat (first | refine blk_drewN ?_ _ | refine blk_drew ?_ | refine blk_alloc ?_ _)); exact BK109.out) hb)
    have n3_ := Aside0.mk (below_step (by repeat (first | (with_reducible first | exact HB.out | apply below_alloc | apply pw_below_drewN | apply below_drew1 | refine below_set ?_ GE109.out) | exact HB.out)) hb)
    clear HO113
    clear BK109
    clear HB
    have HO113 := n0_
    have HO116 := n1_
    have BK109 := n2_
    have HB := n3_
    clear n0_ n1_ n2_ n3_
    (try clear hb)
    (try clear hb2)
    (try clear hk)
    (try clear hi)
    (try clear ho0)
    refine hK.out _ _ ⟨(blk_cell BK109.out 0).trans rfl, (blk_cell BK109.out 1).trans rfl, (blk_cell BK109.out 2).trans rfl, (blk_cell BK109.out 3).trans rfl⟩ (fun hHeld => ?_)
    clear hK K
    refine norm_ (a' := ?_) ?_ ?_
    rotate_left
    · show Act.put _ (some 23) _ = _
      simp only [Act.put, List.setIfInBounds_toArray, List.set_cons_zero, List.set_cons_succ, i64_w, i32_w]
      rfl
    refine pure_ (i := 7) (N := some 7) (v := ?_) (a' := ?_) #[true, true, true, true, true, true, true, true] rfl rfl (any_of HT_.out (by kernel_rfl)) (fun _ _ _ h => h) (Or.inl ⟨by rfl, ?_⟩) ?_ ?_
    rotate_left
    · intro w'
      go_simp
      with_reducible rfl
    rotate_left
    · simp only [Act.put, List.setIfInBounds_toArray, List.set_cons_zero, List.set_cons_succ, i64_w, i32_w]
      rfl
    refine done_ (done_of HT_.out (by kernel_rfl)) ?_
    have hcz15_0 : w14.cell? ⟨gb109, 0, none⟩ = some (.string a1_0) := (blk_cell BK109.out 0).trans rfl
    have hcz15_1 : w14.cell? ⟨gb109, 1, none⟩ = some (.string a1_1) := (blk_cell BK109.out 1).trans rfl
    have hcz15_2 : w14.cell? ⟨gb109, 2, none⟩ = some (.slice A1_2 l1_2.length c1_2) := (blk_cell BK109.out 2).trans rfl
    have hcz15_3 : w14.cell? ⟨gb109, 3, none⟩ = some (.slice A1_3 l1_3.length c1_3) := (blk_cell BK109.out 3).trans rfl
    have hfz15_0 := blk_frozen BK109.out 0
    have hfz15_1 := blk_frozen BK109.out 1
    have hfz15_2 := blk_frozen BK109.out 2
    have hfz15_3 := blk_frozen BK109.out 3
    obtain ⟨Ao16, co16, eo16⟩ := Kd.R_slice HO116.out
    subst eo16
    try go_wp2_with (first | ((with_reducible refine gate_callee (f := 20) rfl ?_); refine goesL_ (some 28) rfl rfl Try.func20 (by kernel_rfl) rfl #[.slice Ao16 t114.length co16, .int .i64 (l1_2.length : Int)] rfl (by (try simp only [List.map_toArray, List.map_cons, List.map_nil]); first | done | rfl | (simp only [List.length_drop, List.length_take]; rfl)) ?_; (with_reducible refine (num_Put.calls _ _ t114 (l1_2.length : Int) t117 _ ?side1 ?side2 A7.out).mono ?_); (case side1 => repeat (first | exact (Kd.R_reads' HO116.out).2.2 | (with_reducible refine Kd.C_alloc ?_ _) | (with_reducible refine Kd.C_drewN ?_ _) | (with_reducible refine Kd.C_drew ?_))); (case side2 => exact (Kd.R_reads' HO116.out).2.1); rintro e w17 ⟨v118, rfl, ho0, hb⟩; refine ⟨_, rfl, ?_⟩; have n0_ := Aside0.mk (Kd.R_elder' (by (with_reducible repeat (first | apply Kd.R_alloc | apply Kd.R_drewN | apply Kd.R_drew)); exact HO113.out) (Kd.R_base ho0) hb); have n1_ := Aside0.mk (Kd.R_elder' (by (with_reducible repeat (first | apply Kd.R_alloc | apply Kd.R_drewN | apply Kd.R_drew)); exact HO116.out) (Kd.R_base ho0) hb); have n2_ := Aside0.mk (Kd.R_lower (Kd.R_new' (Kd.R_new' ho0 (Kd.R_lt (by (with_reducible repeat (first | apply Kd.R_alloc | apply Kd.R_drewN | apply Kd.R_drew)); exact HO113.out))) (Kd.R_lt (by (with_reducible repeat (first | apply Kd.R_alloc | apply Kd.R_drewN | apply Kd.R_drew)); exact HO116.out))) (below_size (by repeat (first | (with_reducible first | exact HB.out | apply below_alloc | apply pw_below_drewN | apply below_drew1 | refine below_set ?_ GE109.out) | exact HB.out)))); have n3_ := Aside0.mk (blk_below (g := gb109) (o := .cells #[.string a1_0, .string a1_1, .slice A1_2 l1_2.length c1_2, .slice A1_3 l1_3.length c1_3] 40 (0, 0)) (by (with_reducible repeat (first | refine blk_drewN ?_ _ | refine blk_drew ?_ | refine blk_alloc ?_ _)); exact BK109.out) hb); have n4_ := Aside0.mk (below_step (by repeat (first | (with_reducible first | exact HB.out | apply below_alloc | apply pw_below_drewN | apply below_drew1 | refine below_set ?_ GE109.out) | exact HB.out)) hb); clear HO113; clear HO116; clear BK109; clear HB; have HO113 := n0_; have HO116 := n1_; have HO119 := n2_; have BK109 := n3_; have HB := n4_; clear n0_ n1_ n2_ n3_ n4_; (try clear hb); (try clear hb2); (try clear hk); (try clear hi); (try clear ho0); have hcz18_0 : w17.cell? ⟨gb109, 0, none⟩ = some (.string a1_0) := (blk_cell BK109.out 0).trans rfl; have hcz18_1 : w17.cell? ⟨gb109, 1, none⟩ = some (.string a1_1) := (blk_cell BK109.out 1).trans rfl; have hcz18_2 : w17.cell? ⟨gb109, 2, none⟩ = some (.slice A1_2 l1_2.length c1_2) := (blk_cell BK109.out 2).trans rfl; have hcz18_3 : w17.cell? ⟨gb109, 3, none⟩ = some (.slice A1_3 l1_3.length c1_3) := (blk_cell BK109.out 3).trans rfl; have hfz18_0 := blk_frozen BK109.out 0; have hfz18_1 := blk_frozen BK109.out 1; have hfz18_2 := blk_frozen BK109.out 2; have hfz18_3 := blk_frozen BK109.out 3))
    go_loopg [7, 32] k (fun kq v7 v32 w' => ∃ (x7_1 : List Int) (x32_1 : Int), v32 = .int .i64 x32_1 ∧ Aside0 (evcode_Put.l0 kq x7_1 l1_2 (l1_2.length : Int) x32_1 a1_0 a1_1 l1_2 l1_3 = some (r1, r2)) ∧ Aside0 (kq ≤ k) ∧ Aside0 (Kd.R (Kd.int .u8) 5 w' w.heap.size (fun _ => True) v7 x7_1) ∧ Aside0 (w'.heap[gb109]? = some (.cells #[.string a1_0, .string a1_1, (.slice A1_2 l1_2.length c1_2), (.slice A1_3 l1_3.length c1_3)] 40 (0, 0))) ∧ Aside0 (Below w.heap.size w w'))
    case atStart => exact ⟨(t117), (0), (by first | rfl | (simp; done) | (simp [*]; done)), H', ⟨Nat.le_refl _⟩, ⟨by (with_reducible repeat (first | apply Kd.R_alloc | apply Kd.R_drewN | apply Kd.R_drew)); exact Kd.R_mono HO119.out (fun _ hk => trivial)⟩, ⟨by (with_reducible repeat (first | refine blk_drewN ?_ _ | refine blk_drew ?_ | refine blk_alloc ?_ _)); exact BK109.out⟩, ⟨by repeat (first | (with_reducible first | exact HB.out | apply below_alloc | apply pw_below_drewN | apply below_drew1 | refine below_set ?_ GE109.out) | exact HB.out)⟩⟩
    case round =>
      clear H'
      try clear c1
      try clear c2
      try clear p2
      try clear c4
      try clear c4b0
      try clear c4b1
      try clear c17
      try clear hcz15_0
      try clear hcz15_1
      try clear hcz15_2
      try clear hcz15_3
      try clear hcz18_0
      try clear hcz18_1
      try clear hcz18_2
      try clear hcz18_3
      try clear hcz9_0
      try clear hcz9_1
      try clear hcz9_2
      try clear hcz9_3
      try clear hfz15_0
      try clear hfz15_1
      try clear hfz15_2
      try clear hfz15_3
      try clear hfz18_0
      try clear hfz18_1
      try clear hfz18_2
      try clear hfz18_3
      try clear hfz9_0
      try clear hfz9_1
      try clear hfz9_2
      try clear hfz9_3
      obtain ⟨x7_1, x32_1, rfl, HA, HK1, HO_7, BK109, HB⟩ := hrel
      cases gk with
      | zero => exact absurd HA.out (by simp [evcode_Put.l0])
      | succ k1 =>
        have H := HA.out
        clear HA
        simp only [evcode_Put.l0] at H
        by_cases c19 : x32_1 < (l1_2.length : Int)
        · rw [if_pos c19] at H
          have c19b0 : decide (x32_1 < (l1_2.length : Int)) = true := decide_eq_true c19
          clear c19
          by_cases c20 : 0 ≤ x32_1
          · rw [if_pos c20] at H
            have c20b0 : decide (0 ≤ x32_1) = true := decide_eq_true c20
            clear c20
            by_cases c21 : x32_1 < (l1_2.length : Int)
            · rw [if_pos c21] at H
              have c21b0 : decide (x32_1 < (l1_2.length : Int)) = true := decide_eq_true c21
              clear c21
              replace H := Option.bind_eq_some_iff.mp H
              obtain ⟨t121, A220, H⟩ := H
              replace H : (evcode_Put.l0 k1 t121 l1_2 (l1_2.length : Int) (wrap64 (x32_1 + 1)) a1_0 a1_1 l1_2 l1_3) = some (r1, r2) := H
              have A22 := Aside0.mk A220
              clear A220
              have H' := Aside0.mk H
              clear H
              have p120 : 0 ≤ (x32_1 : Int) := of_decide_eq_true (by first | (with_reducible assumption) | assumption)
              have q120 : x32_1 < (l1_2.length : Int) := of_decide_eq_true (by first | (with_reducible assumption) | assumption)
              obtain ⟨ad120, e120, hx120_0⟩ := Kd.at_string HR1_2.out x32_1 p120 q120
              cases e120
              replace hx120_0 := (HB.out.cell (World.block_lt_of_cell? w _ hx120_0)).trans hx120_0
              replace p120 := eq_true p120
              replace q120 := eq_true q120
              obtain ⟨Ao23, co23, eo23⟩ := Kd.R_slice HO_7.out
              subst eo23
              go_wp2_with (first | ((with_reducible refine gate_callee (f := 25) rfl ?_); refine goesL_ (some 38) rfl rfl Try.func25 (by kernel_rfl) rfl #[.slice Ao23 x7_1.length co23, .string (rdOf ByteArray.empty l1_2 x32_1)] rfl (by (try simp only [List.map_toArray, List.map_cons, List.map_nil]); first | done | rfl | (simp only [List.length_drop, List.length_take]; rfl)) ?_; (with_reducible refine (num_PutText.calls _ _ x7_1 (rdOf ByteArray.empty l1_2 x32_1) t121 _ ?side1 ?side2 A22.out).mono ?_); (case side1 => repeat (first | exact (Kd.R_reads' HO_7.out).2.2 | (with_reducible refine Kd.C_alloc ?_ _) | (with_reducible refine Kd.C_drewN ?_ _) | (with_reducible refine Kd.C_drew ?_))); (case side2 => exact (Kd.R_reads' HO_7.out).2.1); rintro e w24 ⟨v122, rfl, ho0, hb⟩; refine ⟨_, rfl, ?_⟩; have n0_ := Aside0.mk (Kd.R_elder' (by (with_reducible repeat (first | apply Kd.R_alloc | apply Kd.R_drewN | apply Kd.R_drew)); exact HO_7.out) (Kd.R_base ho0) hb); have n1_ := Aside0.mk (Kd.R_lower (Kd.R_new' ho0 (Kd.R_lt (by (with_reducible repeat (first | apply Kd.R_alloc | apply Kd.R_drewN | apply Kd.R_drew)); exact HO_7.out))) (below_size (by repeat (first | (with_reducible first | exact HB.out | apply below_alloc | apply pw_below_drewN | apply below_drew1 | refine below_set ?_ GE109.out) | exact HB.out)))); have n2_ := Aside0.mk (blk_below (g := gb109) (o := .cells #[.string a1_0, .string a1_1, .slice (some ad120) l1_2.length c1_2, .slice A1_3 l1_3.length c1_3] 40 (0, 0)) (by (with_reducible repeat (first | refine blk_drewN ?_ _ | refine blk_drew ?_ | refine blk_alloc ?_ _)); exact BK109.out) hb); have n3_ := Aside0.mk (below_step (by repeat (first | (with_reducible first | exact HB.out | apply below_alloc | apply pw_below_drewN | apply below_drew1 | refine below_set ?_ GE109.out) | exact HB.out)) hb); clear HO_7; clear BK109; clear HB; have HO_7 := n0_; have HO123 := n1_; have BK109 := n2_; have HB := n3_; clear n0_ n1_ n2_ n3_; (try clear hb); (try clear hb2); (try clear hk); (try clear hi); (try clear ho0)))
              go_roundg k1
              case measure => have := HK1.out; omega
              case rel => exact ⟨(t121), (wrap64 (x32_1 + 1)), (by first | rfl | (simp; done) | (simp [*]; done)), H', ⟨by have := HK1.out; omega⟩, ⟨by (with_reducible repeat (first | apply Kd.R_alloc | apply Kd.R_drewN | apply Kd.R_drew)); exact Kd.R_mono HO123.out (fun _ hk => trivial)⟩, ⟨by (with_reducible repeat (first | refine blk_drewN ?_ _ | refine blk_drew ?_ | refine blk_alloc ?_ _)); exact BK109.out⟩, ⟨by repeat (first | (with_reducible first | exact HB.out | apply below_alloc | apply pw_below_drewN | apply below_drew1 | refine below_set ?_ GE109.out) | exact HB.out)⟩⟩
            · rw [if_neg c21] at H
              exact absurd H (by simp)
          · rw [if_neg c20] at H
            exact absurd H (by simp)
        · rw [if_neg c19] at H
          have c19b0 : decide (x32_1 < (l1_2.length : Int)) = false := decide_eq_false c19
          clear c19
          replace H := Option.bind_eq_some_iff.mp H
          obtain ⟨t124, A250, H⟩ := H
          replace H : (evcode_Put.l1 k1 t124 l1_3 (l1_3.length : Int) 0) = some (r1, r2) := H
          have A25 := Aside0.mk A250
          clear A250
          have H' := Aside0.mk H
          clear H
          have hcz26_0 : wr.cell? ⟨gb109, 0, none⟩ = some (.string a1_0) := (blk_cell BK109.out 0).trans rfl
          have hcz26_1 : wr.cell? ⟨gb109, 1, none⟩ = some (.string a1_1) := (blk_cell BK109.out 1).trans rfl
          have hcz26_2 : wr.cell? ⟨gb109, 2, none⟩ = some (.slice A1_2 l1_2.length c1_2) := (blk_cell BK109.out 2).trans rfl
          have hcz26_3 : wr.cell? ⟨gb109, 3, none⟩ = some (.slice A1_3 l1_3.length c1_3) := (blk_cell BK109.out 3).trans rfl
          have hfz26_0 := blk_frozen BK109.out 0
          have hfz26_1 := blk_frozen BK109.out 1
          have hfz26_2 := blk_frozen BK109.out 2
          have hfz26_3 := blk_frozen BK109.out 3
          obtain ⟨Ao27, co27, eo27⟩ := Kd.R_slice HO_7.out
          subst eo27
          go_wp2_with (first | ((with_reducible refine gate_callee (f := 20) rfl ?_); refine goesL_ (some 44) rfl rfl Try.func20 (by kernel_rfl) rfl #[.slice Ao27 x7_1.length co27, .int .i64 (l1_3.length : Int)] rfl (by (try simp only [List.map_toArray, List.map_cons, List.map_nil]); first | done | rfl | (simp only [List.length_drop, List.length_take]; rfl)) ?_; (with_reducible refine (num_Put.calls _ _ x7_1 (l1_3.length : Int) t124 _ ?side1 ?side2 A25.out).mono ?_); (case side1 => repeat (first | exact (Kd.R_reads' HO_7.out).2.2 | (with_reducible refine Kd.C_alloc ?_ _) | (with_reducible refine Kd.C_drewN ?_ _) | (with_reducible refine Kd.C_drew ?_))); (case side2 => exact (Kd.R_reads' HO_7.out).2.1); rintro e w28 ⟨v125, rfl, ho0, hb⟩; refine ⟨_, rfl, ?_⟩; have n0_ := Aside0.mk (Kd.R_elder' (by (with_reducible repeat (first | apply Kd.R_alloc | apply Kd.R_drewN | apply Kd.R_drew)); exact HO_7.out) (Kd.R_base ho0) hb); have n1_ := Aside0.mk (Kd.R_lower (Kd.R_new' ho0 (Kd.R_lt (by (with_reducible repeat (first | apply Kd.R_alloc | apply Kd.R_drewN | apply Kd.R_drew)); exact HO_7.out))) (below_size (by repeat (first | (with_reducible first | exact HB.out | apply below_alloc | apply pw_below_drewN | apply below_drew1 | refine below_set ?_ GE109.out) | exact HB.out)))); have n2_ := Aside0.mk (blk_below (g := gb109) (o := .cells #[.string a1_0, .string a1_1, .slice A1_2 l1_2.length c1_2, .slice A1_3 l1_3.length c1_3] 40 (0, 0)) (by (with_reducible repeat (first | refine blk_drewN ?_ _ | refine blk_drew ?_ | refine blk_alloc ?_ _)); exact BK109.out) hb); have n3_ := Aside0.mk (below_step (by repeat (first | (with_reducible first | exact HB.out | apply below_alloc | apply pw_below_drewN | apply below_drew1 | refine below_set ?_ GE109.out) | exact HB.out)) hb); clear HO_7; clear BK109; clear HB; have HO_7 := n0_; have HO126 := n1_; have BK109 := n2_; have HB := n3_; clear n0_ n1_ n2_ n3_; (try clear hb); (try clear hb2); (try clear hk); (try clear hi); (try clear ho0); have hcz29_0 : w28.cell? ⟨gb109, 0, none⟩ = some (.string a1_0) := (blk_cell BK109.out 0).trans rfl; have hcz29_1 : w28.cell? ⟨gb109, 1, none⟩ = some (.string a1_1) := (blk_cell BK109.out 1).trans rfl; have hcz29_2 : w28.cell? ⟨gb109, 2, none⟩ = some (.slice A1_2 l1_2.length c1_2) := (blk_cell BK109.out 2).trans rfl; have hcz29_3 : w28.cell? ⟨gb109, 3, none⟩ = some (.slice A1_3 l1_3.length c1_3) := (blk_cell BK109.out 3).trans rfl; have hfz29_0 := blk_frozen BK109.out 0; have hfz29_1 := blk_frozen BK109.out 1; have hfz29_2 := blk_frozen BK109.out 2; have hfz29_3 := blk_frozen BK109.out 3))
          go_loopg [7, 48] k1 (fun kq v7 v48 w' => ∃ (x7_2 : List Int) (x48_2 : Int), v48 = .int .i64 x48_2 ∧ Aside0 (evcode_Put.l1 kq x7_2 l1_3 (l1_3.length : Int) x48_2 = some (r1, r2)) ∧ Aside0 (kq ≤ k1) ∧ Aside0 (Kd.R (Kd.int .u8) 5 w' w.heap.size (fun _ => True) v7 x7_2) ∧ Aside0 (w'.heap[gb109]? = some (.cells #[.string a1_0, .string a1_1, (.slice A1_2 l1_2.length c1_2), (.slice A1_3 l1_3.length c1_3)] 40 (0, 0))) ∧ Aside0 (Below w.heap.size w w'))
          case atStart => exact ⟨(t124), (0), (by first | rfl | (simp; done) | (simp [*]; done)), H', ⟨Nat.le_refl _⟩, ⟨by (with_reducible repeat (first | apply Kd.R_alloc | apply Kd.R_drewN | apply Kd.R_drew)); exact Kd.R_mono HO126.out (fun _ hk => trivial)⟩, ⟨by (with_reducible repeat (first | refine blk_drewN ?_ _ | refine blk_drew ?_ | refine blk_alloc ?_ _)); exact BK109.out⟩, ⟨by repeat (first | (with_reducible first | exact HB.out | apply below_alloc | apply pw_below_drewN | apply below_drew1 | refine below_set ?_ GE109.out) | exact HB.out)⟩⟩
          case round =>
            clear H'
            try clear c1
            try clear p1
            try clear q1
            try clear hx1
            try clear c2
            try clear p2
            try clear c4
            try clear c4b0
            try clear c4b1
            try clear p6
            try clear p12
            try clear q12
            try clear hx12
            try clear c17
            try clear c19
            try clear c19b0
            try clear c20
            try clear c20b0
            try clear c21
            try clear c21b0
            try clear c22
            try clear c25
            try clear hcz15_0
            try clear hcz15_1
            try clear hcz15_2
            try clear hcz15_3
            try clear hcz18_0
            try clear hcz18_1
            try clear hcz18_2
            try clear hcz18_3
            try clear hcz26_0
            try clear hcz26_1
            try clear hcz26_2
            try clear hcz26_3
            try clear hcz29_0
            try clear hcz29_1
            try clear hcz29_2
            try clear hcz29_3
            try clear hcz9_0
            try clear hcz9_1
            try clear hcz9_2
            try clear hcz9_3
            try clear hfz15_0
            try clear hfz15_1
            try clear hfz15_2
            try clear hfz15_3
            try clear hfz18_0
            try clear hfz18_1
            try clear hfz18_2
            try clear hfz18_3
            try clear hfz26_0
            try clear hfz26_1
            try clear hfz26_2
            try clear hfz26_3
            try clear hfz29_0
            try clear hfz29_1
            try clear hfz29_2
            try clear hfz29_3
            try clear hfz9_0
            try clear hfz9_1
            try clear hfz9_2
            try clear hfz9_3
            try clear hx120_0
            try clear p120
            try clear p2
            try clear q120
            obtain ⟨x7_2, x48_2, rfl, HA, HK2, HO_7, BK109, HB⟩ := hrel
            cases gk with
            | zero => exact absurd HA.out (by simp [evcode_Put.l1])
            | succ k2 =>
              have H := HA.out
              clear HA
              simp only [evcode_Put.l1] at H
              by_cases c30 : x48_2 < (l1_3.length : Int)
              · rw [if_pos c30] at H
                have c30b0 : decide (x48_2 < (l1_3.length : Int)) = true := decide_eq_true c30
                clear c30
                by_cases c31 : 0 ≤ x48_2
                · rw [if_pos c31] at H
                  have c31b0 : decide (0 ≤ x48_2) = true := decide_eq_true c31
                  clear c31
                  by_cases c32 : x48_2 < (l1_3.length : Int)
                  · rw [if_pos c32] at H
                    have c32b0 : decide (x48_2 < (l1_3.length : Int)) = true := decide_eq_true c32
                    clear c32
                    replace H := Option.bind_eq_some_iff.mp H
                    obtain ⟨t129, A330, H⟩ := H
                    replace H : ((num_Put.f t129 ((rd_T50 l1_3 x48_2).f1)).bind fun t132 => (evcode_Put.l1 k2 t132 l1_3 (l1_3.length : Int) (wrap64 (x48_2 + 1)))) = some (r1, r2) := H
                    have A33 := Aside0.mk A330
                    clear A330
                    replace H := Option.bind_eq_some_iff.mp H
                    obtain ⟨t132, A340, H⟩ := H
                    replace H : (evcode_Put.l1 k2 t132 l1_3 (l1_3.length : Int) (wrap64 (x48_2 + 1))) = some (r1, r2) := H
                    have A34 := Aside0.mk A340
                    clear A340
                    have H' := Aside0.mk H
                    clear H
                    have p127 : 0 ≤ (x48_2 : Int) := of_decide_eq_true (by first | (with_reducible assumption) | assumption)
                    have q127 : x48_2 < (l1_3.length : Int) := of_decide_eq_true (by first | (with_reducible assumption) | assumption)
                    obtain ⟨ad127, e127, hx127_0, hx127_1⟩ := at_T50 HR1_3.out x48_2 p127 q127
                    cases e127
                    replace hx127_0 := (HB.out.cell (World.block_lt_of_cell? w _ hx127_0)).trans hx127_0
                    replace hx127_1 := (HB.out.cell (World.block_lt_of_cell? w _ hx127_1)).trans hx127_1
                    replace p127 := eq_true p127
                    replace q127 := eq_true q127
                    try go_wp2_with (first | ((with_reducible refine gate_dst (N := 11) rfl ?_); refine box_event ?hg (N := 11) ?hd (cs := #[.string (⟨#[]⟩ : ByteArray), .int .i64 0]) (t := 50) ?hr ?_; (case hd => rfl); (case hg => rfl); (case hr => first | (go_simp; done) | (go_simp; rfl)); intro gb128 hg w35 hbox hb; have n0_ := Aside0.mk (Kd.R_below (by (with_reducible repeat (first | apply Kd.R_alloc | apply Kd.R_drewN | apply Kd.R_drew)); exact HO_7.out) hb); have n1_ := Aside0.mk (blk_below (g := gb109) (o := .cells #[.string a1_0, .string a1_1, .slice A1_2 l1_2.length c1_2, .slice (some ad127) l1_3.length c1_3] 40 (0, 0)) (by (with_reducible repeat (first | refine blk_drewN ?_ _ | refine blk_drew ?_ | refine blk_alloc ?_ _)); exact BK109.out) hb); have n2_ := Aside0.mk (below_step (by repeat (first | (with_reducible first | exact HB.out | apply below_alloc | apply pw_below_drewN | apply below_drew1 | refine below_set ?_ GE109.out) | exact HB.out)) hb); have n3_ := Aside0.mk (hbox); have n4_ := Aside0.mk ((by rw [hg]; exact (below_size (by repeat (first | (with_reducible first | exact HB.out | apply below_alloc | apply pw_below_drewN | apply below_drew1 | refine below_set ?_ GE109.out) | exact HB.out))) : w.heap.size ≤ gb128)); have n5_ := Aside0.mk ((by rw [hg]; exact (below_size (by repeat (first | (with_reducible first | exact HB.out | apply below_alloc | apply pw_below_drewN | apply below_drew1 | refine below_set ?_ GE109.out) | exact HB.out))) : w.heap.size ≤ gb128)); have n6_ := Aside0.mk ((by rw [hg]; exact Nat.ne_of_lt (blk_lt (g := gb109) (o := .cells #[.string a1_0, .string a1_1, .slice A1_2 l1_2.length c1_2, .slice (some ad127) l1_3.length c1_3] 40 (0, 0)) (by (with_reducible repeat (first | refine blk_drewN ?_ _ | refine blk_drew ?_ | refine blk_alloc ?_ _)); exact BK109.out)) : gb109 ≠ gb128)); have n7_ := Aside0.mk ((by rw [hg]; exact Nat.ne_of_gt (blk_lt (g := gb109) (o := .cells #[.string a1_0, .string a1_1, .slice A1_2 l1_2.length c1_2, .slice (some ad127) l1_3.length c1_3] 40 (0, 0)) (by (with_reducible repeat (first | refine blk_drewN ?_ _ | refine blk_drew ?_ | refine blk_alloc ?_ _)); exact BK109.out)) : gb128 ≠ gb109)); clear HO_7; clear BK109; clear HB; have HO_7 := n0_; have BK109 := n1_; have HB := n2_; have BK128 := n3_; have GW128 := n4_; have GE128 := n5_; have NB109_128 := n6_; have NB128_109 := n7_; clear n0_ n1_ n2_ n3_ n4_ n5_ n6_ n7_; clear hb hbox hg; have hnb36 := NB128_109.out; have hnc36 := NB109_128.out; have hcz37_0 : w35.cell? ⟨gb128, 0, none⟩ = some (.string (⟨#[]⟩ : ByteArray)) := (blk_cell BK128.out 0).trans rfl; have hcz37_1 : w35.cell? ⟨gb128, 1, none⟩ = some (.int .i64 0) := (blk_cell BK128.out 1).trans rfl; have hfz37_0 := blk_frozen BK128.out 0; have hfz37_1 := blk_frozen BK128.out 1))
                    have n0_ : Aside0 (Kd.R (Kd.int .u8) 5 ((w35.setCell ⟨gb128, 0, none⟩ (.string ((rd_T50 l1_3 x48_2).f0))).setCell ⟨gb128, 1, none⟩ (.int .i64 ((rd_T50 l1_3 x48_2).f1))) w.heap.size (fun _ => True) u7 x7_2) := ⟨by (with_reducible repeat (first | apply Kd.R_alloc | apply Kd.R_drewN | apply Kd.R_drew)); exact Kd.R_mono (Kd.R_far (p := ⟨gb128, 1, none⟩) (Kd.R_far (p := ⟨gb128, 0, none⟩) (Kd.R_types HO_7.out BK128.out (by decide)) (fun _ hk => hk.2) (.string ((rd_T50 l1_3 x48_2).f0))) (fun _ hk => hk.2) (.int .i64 ((rd_T50 l1_3 x48_2).f1))) (fun _ hk => trivial)⟩
                    have n1_ : Aside0 (((w35.setCell ⟨gb128, 0, none⟩ (.string ((rd_T50 l1_3 x48_2).f0))).setCell ⟨gb128, 1, none⟩ (.int .i64 ((rd_T50 l1_3 x48_2).f1))).heap[gb109]? = some (.cells #[.string a1_0, .string a1_1, .slice A1_2 l1_2.length c1_2, .slice (some ad127) l1_3.length c1_3] 40 (0, 0))) := ⟨by (with_reducible repeat (first | refine blk_drewN ?_ _ | refine blk_drew ?_ | refine blk_alloc ?_ _)); refine blk_far ?_ NB109_128.out _; (with_reducible repeat (first | refine blk_drewN ?_ _ | refine blk_drew ?_ | refine blk_alloc ?_ _)); refine blk_far ?_ NB109_128.out _; (with_reducible repeat (first | refine blk_drewN ?_ _ | refine blk_drew ?_ | refine blk_alloc ?_ _)); exact BK109.out⟩
                    have n2_ : Aside0 (((w35.setCell ⟨gb128, 0, none⟩ (.string ((rd_T50 l1_3 x48_2).f0))).setCell ⟨gb128, 1, none⟩ (.int .i64 ((rd_T50 l1_3 x48_2).f1))).heap[gb128]? = some (.cells #[.string ((rd_T50 l1_3 x48_2).f0), .int .i64 ((rd_T50 l1_3 x48_2).f1)] 50 (0, 0))) := ⟨by (with_reducible repeat (first | refine blk_drewN ?_ _ | refine blk_drew ?_ | refine blk_alloc ?_ _)); refine blk_put (cs := #[.string ((rd_T50 l1_3 x48_2).f0), .int .i64 0]) ?_ 1 _ rfl; (with_reducible repeat (first | refine blk_drewN ?_ _ | refine blk_drew ?_ | refine blk_alloc ?_ _)); refine blk_put (cs := #[.string (⟨#[]⟩ : ByteArray), .int .i64 0]) ?_ 0 _ rfl; (with_reducible repeat (first | refine blk_drewN ?_ _ | refine blk_drew ?_ | refine blk_alloc ?_ _)); exact BK128.out⟩
                    have n3_ : Aside0 (Below w.heap.size w ((w35.setCell ⟨gb128, 0, none⟩ (.string ((rd_T50 l1_3 x48_2).f0))).setCell ⟨gb128, 1, none⟩ (.int .i64 ((rd_T50 l1_3 x48_2).f1)))) := ⟨by repeat (first | (with_reducible first | exact HB.out | apply below_alloc | apply pw_below_drewN | apply below_drew1 | refine below_set ?_ GE109.out | refine below_set ?_ GE128.out) | exact HB.out)⟩
                    (try clear HO_7)
                    (try clear BK109)
                    (try clear BK128)
                    (try clear HB)
                    generalize ((w35.setCell ⟨gb128, 0, none⟩ (.string ((rd_T50 l1_3 x48_2).f0))).setCell ⟨gb128, 1, none⟩ (.int .i64 ((rd_T50 l1_3 x48_2).f1))) = w38 at n0_ n1_ n2_ n3_ ⊢
                    have HO_7 := n0_
                    have BK109 := n1_
                    have BK128 := n2_
                    have HB := n3_
                    clear n0_ n1_ n2_ n3_
                    have n0_ := Aside0.mk (Kd.R_drew HO_7.out)
                    have n1_ := Aside0.mk (blk_drew BK109.out)
                    have n2_ := Aside0.mk (blk_drew BK128.out)
                    have n3_ := Aside0.mk (below_drew1 HB.out)
                    clear HO_7
                    clear BK109
                    clear BK128
                    clear HB
                    have HO_7 := n0_
                    have BK109 := n1_
                    have BK128 := n2_
                    have HB := n3_
                    clear n0_ n1_ n2_ n3_
                    obtain ⟨Ao40, co40, eo40⟩ := Kd.R_slice HO_7.out
                    (first | subst eo40 | (injection eo40 with f1_ f2_ f3_; have f4_ := f1_.symm; have f5_ := f3_.symm; clear f1_ f2_ f3_; subst f4_; subst f5_))
                    refine start_ (n := 8) (S := fun w' => w'.cell? ⟨gb128, 0, none⟩ = some (.string ((rd_T50 l1_3 x48_2).f0)) ∧ w'.cell? ⟨gb128, 1, none⟩ = some (.int .i64 ((rd_T50 l1_3 x48_2).f1))) (ds := []) #[false, false, false, false, false, false, false, false] (by kernel_rfl) rfl rfl ⟨(blk_cell BK128.out 0).trans rfl, (blk_cell BK128.out 1).trans rfl⟩ (fun hHeld => ?_); refine with_tabW evcode_Put.tab15 evcode_Put.bits15 (fun HT_ HW_ => ?_)
                    generalize w38.drew = w39 at HO_7 BK109 BK128 HB hHeld ⊢
                    refine pure_ (i := 0) (N := some 52) (v := ?_) (a' := ?_) #[true, false, false, false, false, false, false, false] rfl rfl (any_of HT_.out (by kernel_rfl)) (fun _ _ _ h => h) (Or.inl ⟨by rfl, ?_⟩) ?_ ?_
                    rotate_left
                    · intro w'
                      go_simp
                      with_reducible rfl
                    rotate_left
                    · simp only [Act.put, List.setIfInBounds_toArray, List.set_cons_zero, List.set_cons_succ, i64_w, i32_w]
                      rfl
                    refine pure_ (i := 1) (N := some 53) (v := ?_) (a' := ?_) #[true, true, false, false, false, false, false, false] rfl rfl (any_of HT_.out (by kernel_rfl)) (fun _ _ _ h => h) (Or.inl ⟨by rfl, ?_⟩) ?_ ?_
                    rotate_left
                    · intro w'
                      go_simp
                      with_reducible rfl
                    rotate_left
                    · simp only [Act.put, List.setIfInBounds_toArray, List.set_cons_zero, List.set_cons_succ, i64_w, i32_w]
                      rfl
                    refine pure_ (i := 4) (N := some 56) (v := ?_) (a' := ?_) #[true, true, false, false, true, false, false, false] rfl rfl (any_of HT_.out (by kernel_rfl)) (fun _ _ _ h => h) (Or.inl ⟨by rfl, ?_⟩) ?_ ?_
                    rotate_left
                    · intro w'
                      go_simp
                      with_reducible rfl
                    rotate_left
                    · simp only [Act.put, List.setIfInBounds_toArray, List.set_cons_zero, List.set_cons_succ, i64_w, i32_w]
                      rfl
                    refine take_ (i := 2) (N := some 54) (v := ?_) (a' := ?_) #[true, true, true, false, true, false, false, false] rfl rfl (take_ofW HT_.out HW_.out (by kernel_rfl)) (fun _ _ _ h => h) (Or.inl ⟨by rfl, ?_⟩) hHeld ?_ ?_
                    rotate_left
                    · rintro w' ⟨s0, s1⟩
                      go_simp
                      with_reducible rfl
                    rotate_left
                    · simp only [Act.put, List.setIfInBounds_toArray, List.set_cons_zero, List.set_cons_succ, i64_w, i32_w]
                      rfl
                    refine take_ (i := 5) (N := some 57) (v := ?_) (a' := ?_) #[true, true, true, false, true, true, false, false] rfl rfl (take_ofW HT_.out HW_.out (by kernel_rfl)) (fun _ _ _ h => h) (Or.inl ⟨by rfl, ?_⟩) hHeld ?_ ?_
                    rotate_left
                    · rintro w' ⟨s0, s1⟩
                      go_simp
                      with_reducible rfl
                    rotate_left
                    · simp only [Act.put, List.setIfInBounds_toArray, List.set_cons_zero, List.set_cons_succ, i64_w, i32_w]
                      rfl
                    refine one_ (i := 3) (N := some 55) #[true, true, true, true, true, true, false, false] rfl rfl (one_of HT_.out (by kernel_rfl)) (by decide) (fun K hK => ?_)
                    refine goes_ Try.func25 (by kernel_rfl) rfl #[.slice Ao40 x7_2.length co40, .string ((rd_T50 l1_3 x48_2).f0)] (by rfl) rfl rfl (by (try simp only [List.map_toArray, List.map_cons, List.map_nil]); first | done | rfl | (simp only [List.length_drop, List.length_take]; rfl)) ?_
                    with_reducible refine (num_PutText.calls _ _ x7_2 ((rd_T50 l1_3 x48_2).f0) t129 _ ?side1 ?side2 A33.out).mono ?_
                    (case side1 => repeat (first | exact (Kd.R_reads' HO_7.out).2.2 | (with_reducible refine Kd.C_alloc ?_ _) | (with_reducible refine Kd.C_drewN ?_ _) | (with_reducible refine Kd.C_drew ?_)))
                    (case side2 => exact (Kd.R_reads' HO_7.out).2.1)
                    rintro e w41 ⟨v130, rfl, ho0, hb⟩
                    refine ⟨_, rfl, ?_⟩
                    have n0_ := Aside0.mk (Kd.R_elder' (by (with_reducible repeat (first | apply Kd.R_alloc | apply Kd.R_drewN | apply Kd.R_drew)); exact HO_7.out) (Kd.R_base ho0) hb)
                    have n1_ := Aside0.mk (Kd.R_lower (Kd.R_new' ho0 (Kd.R_lt (by (with_reducible repeat (first | apply Kd.R_alloc | apply Kd.R_drewN | apply Kd.R_drew)); exact HO_7.out))) (below_size (by repeat (first | (with_reducible first | exact HB.out | apply below_alloc | apply pw_below_drewN | apply below_drew1 | refine below_set ?_ GE109.out | refine below_set ?_ GE128.out) | exact HB.out))))
                    have n2_ := Aside0.mk (blk_below (g := gb109) (o := .cells #[.string a1_0, .string a1_1, .slice A1_2 l1_2.length c1_2, .slice (some ad127) l1_3.length c1_3] 40 (0, 0)) (by (with_reducible repeat (first | refine blk_drewN ?_ _ | refine blk_drew ?_ | refine blk_alloc ?_ _)); exact BK109.out) hb)
                    have n3_ := Aside0.mk (blk_below (g := gb128) (o := .cells #[.string ((rd_T50 l1_3 x48_2).f0), .int .i64 ((rd_T50 l1_3 x48_2).f1)] 50 (0, 0)) (by (with_reducible repeat (first | refine blk_drewN ?_ _ | refine blk_drew ?_ | refine blk_alloc ?_ _)); exact BK128.out) hb)
                    have n4_ := Aside0.mk (below_step (by repeat (first | (with_reducible first | exact HB.out | apply below_alloc | apply pw_below_drewN | apply below_drew1 | refine below_set ?_ GE109.out | refine below_set ?_ GE128.out) | exact HB.out)) hb)
                    clear HO_7
                    clear BK109
                    clear BK128
                    clear HB
                    have HO_7 := n0_
                    have HO131 := n1_
                    have BK109 := n2_
                    have BK128 := n3_
                    have HB := n4_
                    clear n0_ n1_ n2_ n3_ n4_
                    (try clear hb)
                    (try clear hb2)
                    (try clear hk)
                    (try clear hi)
                    (try clear ho0)
                    obtain ⟨Ao42, co42, eo42⟩ := Kd.R_slice HO131.out
                    (first | subst eo42 | (injection eo42 with f1_ f2_ f3_; have f4_ := f1_.symm; have f5_ := f3_.symm; clear f1_ f2_ f3_; subst f4_; subst f5_))
                    refine hK.out _ _ ⟨(blk_cell BK128.out 0).trans rfl, (blk_cell BK128.out 1).trans rfl⟩ (fun hHeld => ?_)
                    clear hK K
                    refine norm_ (a' := ?_) ?_ ?_
                    rotate_left
                    · show Act.put _ (some 55) _ = _
                      simp only [Act.put, List.setIfInBounds_toArray, List.set_cons_zero, List.set_cons_succ, i64_w, i32_w]
                      rfl
                    refine one_ (i := 6) (N := some 58) #[true, true, true, true, true, true, true, false] rfl rfl (one_of HT_.out (by kernel_rfl)) (by decide) (fun K hK => ?_)
                    refine goes_ Try.func20 (by kernel_rfl) rfl #[.slice Ao42 t129.length co42, .int .i64 ((rd_T50 l1_3 x48_2).f1)] (by rfl) rfl rfl (by (try simp only [List.map_toArray, List.map_cons, List.map_nil]); first | done | rfl | (simp only [List.length_drop, List.length_take]; rfl)) ?_
                    with_reducible refine (num_Put.calls _ _ t129 ((rd_T50 l1_3 x48_2).f1) t132 _ ?side1 ?side2 A34.out).mono ?_
                    (case side1 => repeat (first | exact (Kd.R_reads' HO131.out).2.2 | (with_reducible refine Kd.C_alloc ?_ _) | (with_reducible refine Kd.C_drewN ?_ _) | (with_reducible refine Kd.C_drew ?_)))
                    (case side2 => exact (Kd.R_reads' HO131.out).2.1)
                    rintro e w43 ⟨v133, rfl, ho0, hb⟩
                    refine ⟨_, rfl, ?_⟩
                    have n0_ := Aside0.mk (Kd.R_elder' (by (with_reducible repeat (first | apply Kd.R_alloc | apply Kd.R_drewN | apply Kd.R_drew)); exact HO_7.out) (Kd.R_base ho0) hb)
                    have n1_ := Aside0.mk (Kd.R_elder' (by (with_reducible repeat (first | apply Kd.R_alloc | apply Kd.R_drewN | apply Kd.R_drew)); exact HO131.out) (Kd.R_base ho0) hb)
                    have n2_ := Aside0.mk (Kd.R_lower (Kd.R_new' (Kd.R_new' ho0 (Kd.R_lt (by (with_reducible repeat (first | apply Kd.R_alloc | apply Kd.R_drewN | apply Kd.R_drew)); exact HO_7.out))) (Kd.R_lt (by (with_reducible repeat (first | apply Kd.R_alloc | apply Kd.R_drewN | apply Kd.R_drew)); exact HO131.out))) (below_size (by repeat (first | (with_reducible first | exact HB.out | apply below_alloc | apply pw_below_drewN | apply below_drew1 | refine below_set ?_ GE109.out | refine below_set ?_ GE128.out) | exact HB.out))))
                    have n3_ := Aside0.mk (blk_below (g := gb109) (o := .cells #[.string a1_0, .string a1_1, .slice A1_2 l1_2.length c1_2, .slice (some ad127) l1_3.length c1_3] 40 (0, 0)) (by (with_reducible repeat (first | refine blk_drewN ?_ _ | refine blk_drew ?_ | refine blk_alloc ?_ _)); exact BK109.out) hb)
                    have n4_ := Aside0.mk (blk_below (g := gb128) (o := .cells #[.string ((rd_T50 l1_3 x48_2).f0), .int .i64 ((rd_T50 l1_3 x48_2).f1)] 50 (0, 0)) (by (with_reducible repeat (first | refine blk_drewN ?_ _ | refine blk_drew ?_ | refine blk_alloc ?_ _)); exact BK128.out) hb)
                    have n5_ := Aside0.mk (below_step (by repeat (first | (with_reducible first | exact HB.out | apply below_alloc | apply pw_below_drewN | apply below_drew1 | refine below_set ?_ GE109.out | refine below_set ?_ GE128.out) | exact HB.out)) hb)
                    clear HO_7
                    clear HO131
                    clear BK109
                    clear BK128
                    clear HB
                    have HO_7 := n0_
                    have HO131 := n1_
                    have HO134 := n2_
                    have BK109 := n3_
                    have BK128 := n4_
                    have HB := n5_
                    clear n0_ n1_ n2_ n3_ n4_ n5_
                    (try clear hb)
                    (try clear hb2)
                    (try clear hk)
                    (try clear hi)
                    (try clear ho0)
                    refine hK.out _ _ ⟨(blk_cell BK128.out 0).trans rfl, (blk_cell BK128.out 1).trans rfl⟩ (fun hHeld => ?_)
                    clear hK K
                    refine norm_ (a' := ?_) ?_ ?_
                    rotate_left
                    · show Act.put _ (some 58) _ = _
                      simp only [Act.put, List.setIfInBounds_toArray, List.set_cons_zero, List.set_cons_succ, i64_w, i32_w]
                      rfl
                    refine pure_ (i := 7) (N := some 7) (v := ?_) (a' := ?_) #[true, true, true, true, true, true, true, true] rfl rfl (any_of HT_.out (by kernel_rfl)) (fun _ _ _ h => h) (Or.inl ⟨by rfl, ?_⟩) ?_ ?_
                    rotate_left
                    · intro w'
                      go_simp
                      with_reducible rfl
                    rotate_left
                    · simp only [Act.put, List.setIfInBounds_toArray, List.set_cons_zero, List.set_cons_succ, i64_w, i32_w]
                      rfl
                    refine done_ (done_of HT_.out (by kernel_rfl)) ?_
                    try go_wp2
                    go_roundg k2
                    case measure => have := HK1.out; have := HK2.out; omega
                    case rel => exact ⟨(t132), (wrap64 (x48_2 + 1)), (by first | rfl | (simp; done) | (simp [*]; done)), H', ⟨by have := HK1.out; have := HK2.out; omega⟩, ⟨by (with_reducible repeat (first | apply Kd.R_alloc | apply Kd.R_drewN | apply Kd.R_drew)); exact Kd.R_mono HO134.out (fun _ hk => trivial)⟩, ⟨by (with_reducible repeat (first | refine blk_drewN ?_ _ | refine blk_drew ?_ | refine blk_alloc ?_ _)); exact BK109.out⟩, ⟨by repeat (first | (with_reducible first | exact HB.out | apply below_alloc | apply pw_below_drewN | apply below_drew1 | refine below_set ?_ GE109.out | refine below_set ?_ GE128.out) | exact HB.out)⟩⟩
                  · rw [if_neg c32] at H
                    exact absurd H (by simp)
                · rw [if_neg c31] at H
                  exact absurd H (by simp)
              · rw [if_neg c30] at H
                have c30b0 : decide (x48_2 < (l1_3.length : Int)) = false := decide_eq_false c30
                clear c30
                simp only [Option.some.injEq, Prod.mk.injEq] at H
                obtain ⟨rfl, rfl⟩ := H
                go_wp2
                go_ret2
                exact ⟨_, by first | rfl | (simp [errW_none, errW_some] <;> rfl) | (simp [*, errW_none, errW_some] <;> rfl), by (with_reducible repeat (first | apply Kd.R_alloc | apply Kd.R_drewN | apply Kd.R_drew)); exact HO_7.out, by repeat (first | (with_reducible first | exact HB.out | apply below_alloc | apply pw_below_drewN | apply below_drew1 | refine below_set ?_ GE109.out) | exact HB.out)⟩
  · rw [if_neg c4] at H
    have c4b0 : (t110 == 0) = false := beq_eq_false_iff_ne.mpr c4
    have c4b1 : (t110 != 0) = true := bne_iff_ne.mpr c4
    simp only [Option.some.injEq, Prod.mk.injEq] at H
    obtain ⟨rfl, rfl⟩ := H
    go_enter Try.func17, Try.ntmps17
    go_wp2_with (first | ((with_reducible refine gate_dst (N := 3) rfl ?_); refine box_event ?hg (N := 3) ?hd (cs := #[.string a1_0, .string a1_1, .slice A1_2 l1_2.length c1_2, .slice A1_3 l1_3.length c1_3]) (t := 40) ?hr ?_; (case hd => rfl); (case hg => rfl); (case hr => first | (go_simp; done) | (go_simp; rfl)); intro gb109 hg w44 hbox hb; have n0_ := Aside0.mk (below_step (by repeat (first | (with_reducible first | exact HB.out | apply below_alloc | apply pw_below_drewN | apply below_drew1) | exact HB.out)) hb); have n1_ := Aside0.mk (hbox); have n2_ := Aside0.mk ((by rw [hg]; exact (below_size (by repeat (first | (with_reducible first | exact HB.out | apply below_alloc | apply pw_below_drewN | apply below_drew1) | exact HB.out))) : w.heap.size ≤ gb109)); have n3_ := Aside0.mk ((by rw [hg]; exact (below_size (by repeat (first | (with_reducible first | exact HB.out | apply below_alloc | apply pw_below_drewN | apply below_drew1) | exact HB.out))) : w.heap.size ≤ gb109)); clear HB; have HB := n0_; have BK109 := n1_; have GW109 := n2_; have GE109 := n3_; clear n0_ n1_ n2_ n3_; clear hb hbox hg; have hcz45_0 : w44.cell? ⟨gb109, 0, none⟩ = some (.string a1_0) := (blk_cell BK109.out 0).trans rfl; have hcz45_1 : w44.cell? ⟨gb109, 1, none⟩ = some (.string a1_1) := (blk_cell BK109.out 1).trans rfl; have hcz45_2 : w44.cell? ⟨gb109, 2, none⟩ = some (.slice A1_2 l1_2.length c1_2) := (blk_cell BK109.out 2).trans rfl; have hcz45_3 : w44.cell? ⟨gb109, 3, none⟩ = some (.slice A1_3 l1_3.length c1_3) := (blk_cell BK109.out 3).trans rfl; have hfz45_0 := blk_frozen BK109.out 0; have hfz45_1 := blk_frozen BK109.out 1; have hfz45_2 := blk_frozen BK109.out 2; have hfz45_3 := blk_frozen BK109.out 3) | ((with_reducible refine gate_callee (f := 22) rfl ?_); refine goesL_ (some 13) rfl rfl Try.func22 (by kernel_rfl) rfl #[.agg #[.string a1_0, .string a1_1, .slice A1_2 l1_2.length c1_2, .slice A1_3 l1_3.length c1_3]] rfl (by (try simp only [List.map_toArray, List.map_cons, List.map_nil]); first | done | rfl | (simp only [List.length_drop, List.length_take]; rfl)) ?_; (with_reducible refine (event_May.calls a1_0 a1_1 _ _ l1_2 _ _ l1_3 t110 _ ?side1 ?side2 ?side3 ?side4 A3.out).mono ?_); (case side1 => repeat (first | exact (Kd.C_below HR1_2.out HB.out) | (with_reducible refine Kd.C_alloc ?_ _) | (with_reducible refine Kd.C_drewN ?_ _) | (with_reducible refine Kd.C_drew ?_))); (case side2 => exact HC1_2.out); (case side3 => repeat (first | exact (Kd.C_below HR1_3.out HB.out) | (with_reducible refine Kd.C_alloc ?_ _) | (with_reducible refine Kd.C_drewN ?_ _) | (with_reducible refine Kd.C_drew ?_))); (case side4 => exact HC1_3.out); rintro e w46 ⟨rfl, hb⟩; refine ⟨_, rfl, ?_⟩; have n0_ := Aside0.mk (blk_below (g := gb109) (o := .cells #[.string a1_0, .string a1_1, .slice A1_2 l1_2.length c1_2, .slice A1_3 l1_3.length c1_3] 40 (0, 0)) (by (with_reducible repeat (first | refine blk_drewN ?_ _ | refine blk_drew ?_ | refine blk_alloc ?_ _)); exact BK109.out) hb); have n1_ := Aside0.mk (below_step (by repeat (first | (with_reducible first | exact HB.out | apply below_alloc | apply pw_below_drewN | apply below_drew1 | refine below_set ?_ GE109.out) | exact HB.out)) hb); clear BK109; clear HB; have BK109 := n0_; have HB := n1_; clear n0_ n1_; (try clear hb); (try clear hb2); (try clear hk); (try clear hi)))
    go_ret2
    exact ⟨_, by first | rfl | (simp [errW_none, errW_some] <;> rfl) | (simp [*, errW_none, errW_some] <;> rfl), by first | exact Kd.R_nil _ _ _ _ _ | exact Kd.N_nil _ _ _ _ _ | exact Kd.V_nil _ _ _ _ _ | exact Kd.Q_nil _ _ _ _ _ | exact Kd.S_nil _ _ _ _ _, by repeat (first | (with_reducible first | exact HB.out | apply below_alloc | apply pw_below_drewN | apply below_drew1 | refine below_set ?_ GE109.out) | exact HB.out)⟩

end Go.Proofs.Ytafeakcajhhkoaa.Prt
namespace Go.Proofs.Ytafeakcajhhkoaa.Prt
open Go.RowKit Go.Proofs.YtafeakcajhhkoaaW.PrintWords Go.Proofs.YtafeakcajhhkoaaW.PrintLast Go.Proofs.YtafeakcajhhkoaaW.PrintMore
attribute [local go_sem] max2_int min2_int max_two min_two max_three min_three max_four min_four   -- for this text's walks alone
set_option linter.unusedVariables false
set_option linter.unusedSimpArgs false

end Go.Proofs.Ytafeakcajhhkoaa.Prt

/- What is wrong with an event: the walk of event.May. The contract of event.May, in the form that the printed functions ask. Functions of the program, told as plain functions, with their walks: written by a program of this claim's out of the translation. What is wrong with an event, and whether two events are the same, as the reference says: in closed form. General lemmas for the walks: make with a capacity of its own. Walks of package num: the functions that lay numbers down. The reference's text behind bytes: its walk. The contracts of numbers and texts as bytes, in the form that the printed functions ask. -/
import Derived.Test.YtmnidohgnnpeiaaYEvcodePuts1
namespace Go.Proofs.Ytmnidohgnnpeiaa.Nam
open Go.RowKit Go.Proofs.YtmnidohgnnpeiaaW.PrintWords Go.Proofs.YtmnidohgnnpeiaaW.PrintLast Go.Proofs.YtmnidohgnnpeiaaW.PrintMore Go.Proofs.Ytmnidohgnnpeiaa.Num Go.Proofs.Ytmnidohgnnpeiaa.Prt
set_option linter.unusedVariables false
set_option linter.unusedSimpArgs false

/-- What is wrong with an event. -/
def mayE (s t : ByteArray) (tags : List ByteArray) (fl : List S35) : Int :=
  if mayL (bytesOf s) = false ∨ mayL (bytesOf t) = false then 5 else if 6 < tags.length ∨ 4 < fl.length then 3
  else if (tags.any fun s => !tagB s) = true ∨ ((fl.map (·.f0)).any fun s => !mayL (bytesOf s)) = true then 5
  else if riseB tags = false ∨ riseB (fl.map (·.f0)) = false ∨ fl.any overB = true then 1 else 0
theorem fnAt_below {g : Nat} {w w1 : World} {v : Value} (h : g < w.heap.size ∧ w.cell? ⟨g, 0, none⟩ = some v) (hb : Below w.heap.size w w1) : g < w1.heap.size ∧ w1.cell? ⟨g, 0, none⟩ = some v :=
  ⟨Nat.lt_of_lt_of_le h.1 hb.size, (hb.cell h.1).trans h.2⟩
theorem notTagB (b : Bool) (l : List ByteArray) (h : (l.any fun s => !tagB s) = b) (A : Option Addr) (c : Nat) (g : Nat) (w : World) (hC : Kd.C Kd.string w A l.length l) (hs : ∀ s ∈ l, s.size ≤ 9223372036854775807) (hl : g < w.heap.size) (hg : w.cell? ⟨g, 0, none⟩ = some (.func (.func 41) #[] #[])) :
    Calls Try.prog 39 #[.slice A l.length c, .func (.func 52) #[] #[.pointer (some ⟨g, 0, none⟩)]] w fun e w' => e = .returned (.bool b) ∧ Below w.heap.size w w' := h ▸ notTagC l A c g w hC hs hl hg
theorem notNameB (b : Bool) (l : List ByteArray) (h : (l.any fun s => !mayL (bytesOf s)) = b) (A : Option Addr) (c : Nat) (g : Nat) (w : World) (hC : Kd.C Kd.string w A l.length l) (hs : ∀ s ∈ l, s.size ≤ 9223372036854775807) (hl : g < w.heap.size) (hg : w.cell? ⟨g, 0, none⟩ = some (.func (.func 38) #[] #[])) :
    Calls Try.prog 39 #[.slice A l.length c, .func (.func 52) #[] #[.pointer (some ⟨g, 0, none⟩)]] w fun e w' => e = .returned (.bool b) ∧ Below w.heap.size w w' := h ▸ notNameC l A c g w hC hs hl hg
open Go.Proofs.YtmnidohgnnpeiaaW.PrintLast
def D22.T7 : Bool × List (List Nat × List Nat) := (true, [([], []), ([0], [0]), ([], []), ([1, 2, 2], [1, 2]), ([3, 3], [3]), ([4], [4]), ([4, 4], [4]), ([5, 6, 6, 4], [4, 5, 6]), ([4, 7], [4, 7]), ([8, 7], [8])])
def D22.B7 : List Nat := [0, 1, 0, 7, 15, 31, 31, 127, 255, 511]
theorem D22.tab7 : rtab .any (opsOf Try.f22 7) = D22.T7 := by kernel_rfl
theorem D22.bits7 : waitsOk D22.T7.2 D22.B7 = true := by kernel_rfl
set_option maxHeartbeats 4000000 in
theorem eventMay_calls (s t : ByteArray) (A2 A3 : Option Addr) (c2 c3 : Nat) (l2 : List ByteArray) (l3 : List S35) (w : World) (hr2 : Kd.C Kd.string w A2 l2.length l2) (hc2 : l2.length ≤ c2) (hr3 : Kd.C k35 w A3 l3.length l3) (hc3 : l3.length ≤ c3)
    (hs : s.size ≤ 9223372036854775807) (ht : t.size ≤ 9223372036854775807) (hzt : ∀ x ∈ l2, x.size ≤ 9223372036854775807) (hzf : ∀ x ∈ l3, x.f0.size ≤ 9223372036854775807) (hl3 : l3.length < 8796093022208) :
    Calls Try.prog 22 #[.agg #[.string s, .string t, .slice A2 l2.length c2, .slice A3 l3.length c3]] w fun e w' => e = .returned (.int .i64 (mayE s t l2 l3)) ∧ Below w.heap.size w w' := by
  have HR2 := Aside0.mk hr2
  have HR3 := Aside0.mk hr3
  have HC2 := Aside0.mk hc2
  have HC3 := Aside0.mk hc3
  have HZT := Aside0.mk hzt
  have hm2 := Kd.C_max hr2
  have HB := Aside0.mk (Below.refl w.heap.size w)
  have hu26 := Try.underlying26
  obtain ⟨nm, hnm⟩ : ∃ nm : List ByteArray, nm = l3.map (·.f0) := ⟨_, rfl⟩
  have HNM := Aside0.mk hnm
  have HNV := Aside0.mk ((names_val l3 hl3).trans (congrArg some hnm.symm))
  have hln : nm.length = l3.length := by rw [hnm, List.length_map]
  have HZF : Aside0 (∀ x ∈ nm, x.size ≤ 9223372036854775807) := ⟨fun x hx => by rw [hnm] at hx; obtain ⟨y, hy, rfl⟩ := List.mem_map.1 hx; exact hzf y hy⟩
  obtain ⟨E, hE⟩ : ∃ E, E = mayE s t l2 l3 := ⟨_, rfl⟩
  rw [← hE]
  have HE := Aside0.mk hE
  have HLN := Aside0.mk hln
  clear hr2 hr3 hc2 hc3 hzt hzf hnm hE hln
  go_enter Try.func22, Try.ntmps22
  go_wp2_with (first | ((with_reducible refine gate_dst (N := 1) rfl ?_); refine box_event ?hg (N := 1) ?hd (cs := #[.string s, .string t, .slice A2 l2.length c2, .slice A3 l3.length c3]) (t := 26) ?hr ?_; (case hd => rfl); (case hg => rfl); (case hr => first | (go_simp; done) | (go_simp; rfl)); intro g hg w2 hbox hb; have n1_ := Aside0.mk hbox; have n2_ := Aside0.mk hb; clear HB hbox hg hb; have HX := n1_; have HB := n2_; clear n1_ n2_; have hx0 := blk_cell HX.out 0; have hx1 := blk_cell HX.out 1; have hx2 := blk_cell HX.out 2; have hx3 := blk_cell HX.out 3))
  refine (event_names.calls (l3.length + 1) A3 c3 l3 nm w2 (Kd.C_below HR3.out HB.out) HC3.out HNV.out).mono ?_
  rintro e w3 ⟨v3, rfl, ho, hb⟩
  obtain ⟨A4, c4, rfl, hc4, hC4⟩ := Kd.R_reads ho
  have HC4 := Aside0.mk hc4
  have HR4 := Aside0.mk hC4
  clear ho hc4 hC4 hx0 hx1 hx2 hx3
  have n1_ := Aside0.mk (below_step HB.out hb); have n2_ := Aside0.mk (blk_below HX.out hb); clear HB HX; have HB := n1_; have HX := n2_; clear n1_ n2_ hb
  have hx0 := blk_cell HX.out 0; have hx1 := blk_cell HX.out 1; have hx2 := blk_cell HX.out 2; have hx3 := blk_cell HX.out 3
  go_wp2_with fail
  refine (may_calls s _ hs).mono ?_
  rintro e w4a ⟨rfl, hb⟩
  have n1_ := Aside0.mk (below_step HB.out hb); have n2_ := Aside0.mk (blk_below HX.out hb); clear HB HX; have HB := n1_; have HX := n2_; clear n1_ n2_; have n1_ := Aside0.mk (Kd.C_below HR4.out hb); clear HR4; have HR4 := n1_; clear n1_ hb; clear hx0 hx1 hx2 hx3; have hx0 := blk_cell HX.out 0; have hx1 := blk_cell HX.out 1; have hx2 := blk_cell HX.out 2; have hx3 := blk_cell HX.out 3
  cases hm1 : mayL (bytesOf s) with
  | false =>
    go_wp2
    go_ret
    exact ⟨ret_i64 (HE.out.trans (by unfold mayE; rw [← HNM.out]; exact if_pos (.inl hm1))).symm, HB.out⟩
  | true =>
    go_wp2_with fail
    refine (may_calls t _ ht).mono ?_
    rintro e w5 ⟨rfl, hb⟩
    have n1_ := Aside0.mk (below_step HB.out hb); have n2_ := Aside0.mk (blk_below HX.out hb); clear HB HX; have HB := n1_; have HX := n2_; clear n1_ n2_; have n1_ := Aside0.mk (Kd.C_below HR4.out hb); clear HR4; have HR4 := n1_; clear n1_ hb; clear hx0 hx1 hx2 hx3; have hx0 := blk_cell HX.out 0; have hx1 := blk_cell HX.out 1; have hx2 := blk_cell HX.out 2; have hx3 := blk_cell HX.out 3
    cases hm2 : mayL (bytesOf t) with
    | false =>
      go_wp2
      go_ret
      exact ⟨ret_i64 (HE.out.trans (by unfold mayE; rw [← HNM.out]; exact if_pos (.inr hm2))).symm, HB.out⟩
    | true =>
      have H12 : Aside0 (E = if 6 < l2.length ∨ 4 < nm.length then 3 else if (l2.any fun s => !tagB s) = true ∨ (nm.any fun s => !mayL (bytesOf s)) = true then 5 else if riseB l2 = false ∨ riseB nm = false ∨ l3.any overB = true then 1 else 0) := ⟨by rw [HE.out, HLN.out]; unfold mayE; rw [← HNM.out, if_neg (by rw [hm1, hm2]; simp)]⟩
      clear HE hm1 hm2
      by_cases h6 : 6 < l2.length
      · have hd : decide ((6 : Int) < (l2.length : Int)) = true := decide_eq_true (by omega)
        have HG := Aside0.mk (H12.out.trans (if_pos (.inl h6)))
        go_wp2
        go_ret
        exact ⟨ret_i64 HG.out.symm, HB.out⟩
      have hd6 : decide ((6 : Int) < (l2.length : Int)) = false := decide_eq_false (by omega)
      by_cases h4 : 4 < nm.length
      · have hd : decide ((4 : Int) < (nm.length : Int)) = true := decide_eq_true (by omega)
        have HG := Aside0.mk (H12.out.trans (if_pos (.inr h4)))
        go_wp2
        go_ret
        exact ⟨ret_i64 HG.out.symm, HB.out⟩
      have hd4 : decide ((4 : Int) < (nm.length : Int)) = false := decide_eq_false (by omega)
      have H34 := Aside0.mk (H12.out.trans (if_neg (by omega)))
      clear H12
      go_wp2_with fail
      have HBB := Aside0.mk (below_drew (Below.refl w5.heap.size w5))
      cases h7 : (l2.any fun s => !tagB s) with
      | true =>
        have HT7 := Aside0.mk h7
        have HG := Aside0.mk (H34.out.trans (if_pos (.inl h7)))
        clear h7 hx0 hx1 hx2 hx3
        refine start_ (n := 10) (S := fun w' => True) (ds := []) #[false, false, false, false, false, false, false, false, false, false] (by kernel_rfl) rfl rfl trivial (fun hHeld => ?_); refine with_tabW D22.tab7 D22.bits7 (fun HT_ HW_ => ?_)
        refine inv_at [0, 1, 2, 3, 4, 5, 6, 7, 8, 9] (fun a0_ b a w' => ∃ (g32 : Nat) (m2_ : Value), a = putSel a0_ b [(0, 30, .pointer (some ⟨g, 2, none⟩)), (1, 31, .slice A2 l2.length c2), (2, 32, m2_), (3, 33, .bool true), (4, 34, .bool true), (5, 35, undef), (6, 36, undef), (7, 37, undef), (8, 38, (Value.bool true)), (9, 29, (Value.bool true))] ∧ (Below w5.heap.size w5 w') ∧ (b 2 = true → (g32 < w'.heap.size ∧ w'.cell? ⟨g32, 0, none⟩ = some (.func (.func 41) #[] #[]))) ∧ (b 2 = true → (m2_ : Value) = .func (.func 52) #[] #[.pointer (some ⟨g32, 0, none⟩)])) HT_.out HW_.out (by kernel_rfl) (by kernel_rfl) ?_ ?_ ?_
        · exact ⟨0, .bool false, by simp only [putSel, Bool.false_eq_true, if_false], HBB.out, fun h_ => absurd h_ (by decide), fun h_ => absurd h_ (by decide)⟩
        · clear HT_ HW_ hHeld
          clear HBB
          refine steps_cons ?_ ?_
          · intro b a w' hI_ hb_ hon hoff
            refine ⟨_, rfl, fun K hK => ?_⟩
            obtain ⟨g32, m2_, ha, Q_HBB, Q_HQ32, Q_X2_⟩ := hI_
            have e1 : a.tmps[1]? = some (.pointer (some ⟨g, 0, none⟩)) := by rw [ha]; exact (putSel_off rfl).trans rfl
            replace ha := Aside0.mk ha
            have HBB := Aside0.mk Q_HBB
            refine value_ (w1 := w') (v := .pointer (some ⟨g, 2, none⟩)) (by rfl) rfl ?_ ?_
            · go_simp
              (try simp only [i64_w])
              try (first | rfl | assumption)
            refine hK.out _ _ ⟨g32, m2_, (by rw [ha.out]; exact putSel_upk 0 hb_ rfl rfl rfl), Q_HBB, Q_HQ32, Q_X2_⟩
          refine steps_cons ?_ ?_
          · intro b a w' hI_ hb_ hon hoff
            refine ⟨_, rfl, fun K hK => ?_⟩
            obtain ⟨g32, m2_, ha, Q_HBB, Q_HQ32, Q_X2_⟩ := hI_
            have e30 : a.tmps[30]? = some (.pointer (some ⟨g, 2, none⟩)) := by rw [ha]; exact putSel_on (e := (0, 30, .pointer (some ⟨g, 2, none⟩))) 0 rfl rfl (hon 0 (by kernel_rfl)) rfl
            replace ha := Aside0.mk ha
            have HBB := Aside0.mk Q_HBB
            have hx2 := (HBB.out.cell (blk_lt HX.out)).trans (blk_cell HX.out 2)
            refine value_ (w1 := w') (v := .slice A2 l2.length c2) (by rfl) rfl ?_ ?_
            · go_simp
              (try simp only [i64_w])
              try (first | rfl | assumption)
            refine hK.out _ _ ⟨g32, m2_, (by rw [ha.out]; exact putSel_upk 1 hb_ rfl rfl rfl), Q_HBB, Q_HQ32, Q_X2_⟩
          refine steps_cons ?_ ?_
          · intro b a w' hI_ hb_ hon hoff
            refine ⟨_, rfl, fun K hK => ?_⟩
            obtain ⟨g32, m2_, ha, Q_HBB, Q_HQ32, Q_X2_⟩ := hI_
            replace ha := Aside0.mk ha
            have HBB := Aside0.mk Q_HBB
            refine goes_ Try.func40 (by kernel_rfl) rfl #[.func (.func 41) #[] #[]] (by rfl) rfl rfl (by first | (simp only [List.map_toArray, List.map_cons, List.map_nil, Act.eval, Array.getD_eq_getD_getElem?, Option.getD_some]; done) | (simp only [List.map_toArray, List.map_cons, List.map_nil, Act.eval, Array.getD_eq_getD_getElem?, Option.getD_some]; rfl)) ?_
            with_reducible refine (not_calls 41 _).mono ?_
            rintro e w3 ⟨g_, rfl, hq_, hl_, hb_2⟩
            refine ⟨_, rfl, ?_⟩
            refine hK.out _ _ ⟨g_, (.func (.func 52) #[] #[.pointer (some ⟨g_, 0, none⟩)]), (by rw [ha.out]; exact putSel_upk 2 hb_ rfl rfl rfl), below_step HBB.out hb_2, fun _ => ⟨hl_, hq_⟩, fun _ => rfl⟩
          refine steps_cons ?_ ?_
          · intro b a w' hI_ hb_ hon hoff
            refine ⟨_, rfl, fun K hK => ?_⟩
            obtain ⟨g32, m2_, ha, Q_HBB, Q_HQ32, Q_X2_⟩ := hI_
            have e31 : a.tmps[31]? = some (.slice A2 l2.length c2) := by rw [ha]; exact putSel_on (e := (1, 31, .slice A2 l2.length c2)) 1 rfl rfl (hon 1 (by kernel_rfl)) rfl
            have e32 : a.tmps[32]? = some (m2_) := by rw [ha]; exact putSel_on (e := (2, 32, m2_)) 2 rfl rfl (hon 2 (by kernel_rfl)) rfl
            rw [Q_X2_ (hon 2 (by kernel_rfl))] at e32
            replace ha := Aside0.mk ha
            have HBB := Aside0.mk Q_HBB
            have HQ32 := Aside0.mk (Q_HQ32 (hon 2 (by kernel_rfl)))
            refine goes_ Try.func39 (by kernel_rfl) rfl #[.slice A2 l2.length c2, .func (.func 52) #[] #[.pointer (some ⟨g32, 0, none⟩)]] (by rfl) rfl rfl (by first | (simp only [List.map_toArray, List.map_cons, List.map_nil, Act.eval, Array.getD_eq_getD_getElem?, Option.getD_some, e31, e32]; done) | (simp only [List.map_toArray, List.map_cons, List.map_nil, Act.eval, Array.getD_eq_getD_getElem?, Option.getD_some, e31, e32]; rfl)) ?_
            with_reducible refine (notTagB true l2 HT7.out A2 c2 g32 _ (Kd.C_below (Kd.C_below HR2.out HB.out) HBB.out) HZT.out HQ32.out.1 HQ32.out.2).mono ?_
            rintro e w3 ⟨rfl, hb_2⟩
            refine ⟨_, rfl, ?_⟩
            refine hK.out _ _ ⟨g32, m2_, (by rw [ha.out]; exact putSel_upk 3 hb_ rfl rfl rfl), below_step HBB.out hb_2, fun _ => (fnAt_below HQ32.out hb_2), Q_X2_⟩
          refine steps_cons ?_ ?_
          · intro b a w' hI_ hb_ hon hoff
            refine ⟨_, rfl, fun K hK => ?_⟩
            obtain ⟨g32, m2_, ha, Q_HBB, Q_HQ32, Q_X2_⟩ := hI_
            have e33 : a.tmps[33]? = some (.bool true) := by rw [ha]; exact putSel_on (e := (3, 33, .bool true)) 3 rfl rfl (hon 3 (by kernel_rfl)) rfl
            replace ha := Aside0.mk ha
            have HBB := Aside0.mk Q_HBB
            have HQ32 := Aside0.mk (Q_HQ32 (hon 2 (by kernel_rfl)))
            refine value_ (w1 := w') (v := .bool true) (by rfl) rfl ?_ ?_
            · go_simp
              (try simp only [i64_w])
              try (first | rfl | assumption)
            refine hK.out _ _ ⟨g32, m2_, (by rw [ha.out]; exact putSel_upk 4 hb_ rfl rfl rfl), Q_HBB, Q_HQ32, Q_X2_⟩
          refine steps_cons ?_ ?_
          · intro b a w' hI_ hb_ hon hoff
            refine ⟨_, rfl, fun K hK => ?_⟩
            obtain ⟨g32, m2_, ha, Q_HBB, Q_HQ32, Q_X2_⟩ := hI_
            have e34 : a.tmps[34]? = some (.bool true) := by rw [ha]; exact putSel_on (e := (4, 34, .bool true)) 4 rfl rfl (hon 4 (by kernel_rfl)) rfl
            replace ha := Aside0.mk ha
            have HBB := Aside0.mk Q_HBB
            have HQ32 := Aside0.mk (Q_HQ32 (hon 2 (by kernel_rfl)))
            refine off_ (wanted_off rfl rfl rfl (e34.trans (by first | rfl | (simp [*]; done)))) ?_
            refine hK.out _ _ ⟨g32, m2_, (by rw [ha.out]; exact putSel_upk 5 hb_ rfl rfl rfl), Q_HBB, Q_HQ32, Q_X2_⟩
          refine steps_cons ?_ ?_
          · intro b a w' hI_ hb_ hon hoff
            refine ⟨_, rfl, fun K hK => ?_⟩
            obtain ⟨g32, m2_, ha, Q_HBB, Q_HQ32, Q_X2_⟩ := hI_
            have e34 : a.tmps[34]? = some (.bool true) := by rw [ha]; exact putSel_on (e := (4, 34, .bool true)) 4 rfl rfl (hon 4 (by kernel_rfl)) rfl
            replace ha := Aside0.mk ha
            have HBB := Aside0.mk Q_HBB
            have HQ32 := Aside0.mk (Q_HQ32 (hon 2 (by kernel_rfl)))
            refine off_ (wanted_off rfl rfl rfl (e34.trans (by first | rfl | (simp [*]; done)))) ?_
            refine hK.out _ _ ⟨g32, m2_, (by rw [ha.out]; exact putSel_upk 6 hb_ rfl rfl rfl), Q_HBB, Q_HQ32, Q_X2_⟩
          refine steps_cons ?_ ?_
          · intro b a w' hI_ hb_ hon hoff
            refine ⟨_, rfl, fun K hK => ?_⟩
            obtain ⟨g32, m2_, ha, Q_HBB, Q_HQ32, Q_X2_⟩ := hI_
            have e34 : a.tmps[34]? = some (.bool true) := by rw [ha]; exact putSel_on (e := (4, 34, .bool true)) 4 rfl rfl (hon 4 (by kernel_rfl)) rfl
            replace ha := Aside0.mk ha
            have HBB := Aside0.mk Q_HBB
            have HQ32 := Aside0.mk (Q_HQ32 (hon 2 (by kernel_rfl)))
            refine off_ (wanted_off rfl rfl rfl (e34.trans (by first | rfl | (simp [*]; done)))) ?_
            refine hK.out _ _ ⟨g32, m2_, (by rw [ha.out]; exact putSel_upk 7 hb_ rfl rfl rfl), Q_HBB, Q_HQ32, Q_X2_⟩
          refine steps_cons ?_ ?_
          · intro b a w' hI_ hb_ hon hoff
            refine ⟨_, rfl, fun K hK => ?_⟩
            obtain ⟨g32, m2_, ha, Q_HBB, Q_HQ32, Q_X2_⟩ := hI_
            have e34 : a.tmps[34]? = some (.bool true) := by rw [ha]; exact putSel_on (e := (4, 34, .bool true)) 4 rfl rfl (hon 4 (by kernel_rfl)) rfl
            have e37 : a.tmps[37]? = some (undef) := by rw [ha]; exact putSel_on (e := (7, 37, undef)) 7 rfl rfl (hon 7 (by kernel_rfl)) rfl
            replace ha := Aside0.mk ha
            have HBB := Aside0.mk Q_HBB
            have HQ32 := Aside0.mk (Q_HQ32 (hon 2 (by kernel_rfl)))
            refine value_ (w1 := w') (v := (Value.bool true)) (by rfl) rfl ?_ ?_
            · go_simp
              (try simp only [i64_w])
              try (first | rfl | assumption)
            refine hK.out _ _ ⟨g32, m2_, (by rw [ha.out]; exact putSel_upk 8 hb_ rfl rfl rfl), Q_HBB, Q_HQ32, Q_X2_⟩
          refine steps_cons ?_ ?_
          · intro b a w' hI_ hb_ hon hoff
            refine ⟨_, rfl, fun K hK => ?_⟩
            obtain ⟨g32, m2_, ha, Q_HBB, Q_HQ32, Q_X2_⟩ := hI_
            have e38 : a.tmps[38]? = some ((Value.bool true)) := by rw [ha]; exact putSel_on (e := (8, 38, (Value.bool true))) 8 rfl rfl (hon 8 (by kernel_rfl)) rfl
            replace ha := Aside0.mk ha
            have HBB := Aside0.mk Q_HBB
            have HQ32 := Aside0.mk (Q_HQ32 (hon 2 (by kernel_rfl)))
            refine value_ (w1 := w') (v := (Value.bool true)) (by rfl) rfl ?_ ?_
            · go_simp
              (try simp only [i64_w])
              try (first | rfl | assumption)
            refine hK.out _ _ ⟨g32, m2_, (by rw [ha.out]; exact putSel_upk 9 hb_ rfl rfl rfl), Q_HBB, Q_HQ32, Q_X2_⟩
          exact steps_nil
        rintro b a wz hall ⟨g32, m2_, ha, Q_HBB, Q_HQ32, Q_X2_⟩
        clear HBB
        have hb0_ := hall 0 (by kernel_rfl)
        have hb1_ := hall 1 (by kernel_rfl)
        have hb2_ := hall 2 (by kernel_rfl)
        have hb3_ := hall 3 (by kernel_rfl)
        have hb4_ := hall 4 (by kernel_rfl)
        have hb5_ := hall 5 (by kernel_rfl)
        have hb6_ := hall 6 (by kernel_rfl)
        have hb7_ := hall 7 (by kernel_rfl)
        have hb8_ := hall 8 (by kernel_rfl)
        have hb9_ := hall 9 (by kernel_rfl)
        subst ha
        obtain rfl := Q_X2_ hb2_
        simp only [putSel, hb0_, hb1_, hb2_, hb3_, hb4_, hb5_, hb6_, hb7_, hb8_, hb9_, if_true, Act.put, List.setIfInBounds_toArray, List.set_cons_zero, List.set_cons_succ]
        have HBB := Aside0.mk Q_HBB
        clear Q_HBB
        have HQ32 := Aside0.mk (Q_HQ32 hb2_)
        clear Q_HQ32
        clear hall hb0_ hb1_ hb2_ hb3_ hb4_ hb5_ hb6_ hb7_ hb8_ hb9_
        go_wp2
        go_ret
        exact ⟨ret_i64 HG.out.symm, below_step HB.out HBB.out⟩
      | false =>
        have HT7 := Aside0.mk h7
        cases h8 : (nm.any fun s => !mayL (bytesOf s)) with
        | true =>
          have HF7 := Aside0.mk h8
          have HG := Aside0.mk (H34.out.trans (if_pos (.inr h8)))
          clear h7 h8 hx0 hx1 hx2 hx3
          refine start_ (n := 10) (S := fun w' => True) (ds := []) #[false, false, false, false, false, false, false, false, false, false] (by kernel_rfl) rfl rfl trivial (fun hHeld => ?_); refine with_tabW D22.tab7 D22.bits7 (fun HT_ HW_ => ?_)
          refine inv_at [0, 1, 2, 3, 4, 5, 6, 7, 8, 9] (fun a0_ b a w' => ∃ (g32 : Nat) (g36 : Nat) (m2_ : Value) (m6_ : Value), a = putSel a0_ b [(0, 30, .pointer (some ⟨g, 2, none⟩)), (1, 31, .slice A2 l2.length c2), (2, 32, m2_), (3, 33, .bool false), (4, 34, .bool false), (5, 35, .slice A4 nm.length c4), (6, 36, m6_), (7, 37, .bool true), (8, 38, .bool true), (9, 29, .bool true)] ∧ (Below w5.heap.size w5 w') ∧ (b 2 = true → (g32 < w'.heap.size ∧ w'.cell? ⟨g32, 0, none⟩ = some (.func (.func 41) #[] #[]))) ∧ (b 6 = true → (g36 < w'.heap.size ∧ w'.cell? ⟨g36, 0, none⟩ = some (.func (.func 38) #[] #[]))) ∧ (b 2 = true → (m2_ : Value) = .func (.func 52) #[] #[.pointer (some ⟨g32, 0, none⟩)]) ∧ (b 6 = true → (m6_ : Value) = .func (.func 52) #[] #[.pointer (some ⟨g36, 0, none⟩)])) HT_.out HW_.out (by kernel_rfl) (by kernel_rfl) ?_ ?_ ?_
          · exact ⟨0, 0, .bool false, .bool false, by simp only [putSel, Bool.false_eq_true, if_false], HBB.out, fun h_ => absurd h_ (by decide), fun h_ => absurd h_ (by decide), fun h_ => absurd h_ (by decide), fun h_ => absurd h_ (by decide)⟩
          · clear HT_ HW_ hHeld
            clear HBB
            refine steps_cons ?_ ?_
            · intro b a w' hI_ hb_ hon hoff
              refine ⟨_, rfl, fun K hK => ?_⟩
              obtain ⟨g32, g36, m2_, m6_, ha, Q_HBB, Q_HQ32, Q_HQ36, Q_X2_, Q_X6_⟩ := hI_
              have e1 : a.tmps[1]? = some (.pointer (some ⟨g, 0, none⟩)) := by rw [ha]; exact (putSel_off rfl).trans rfl
              replace ha := Aside0.mk ha
              have HBB := Aside0.mk Q_HBB
              refine value_ (w1 := w') (v := .pointer (some ⟨g, 2, none⟩)) (by rfl) rfl ?_ ?_
              · go_simp
                (try simp only [i64_w])
                try (first | rfl | assumption)
              refine hK.out _ _ ⟨g32, g36, m2_, m6_, (by rw [ha.out]; exact putSel_upk 0 hb_ rfl rfl rfl), Q_HBB, Q_HQ32, fun h0_ => absurd ((hoff 6 (by kernel_rfl)).symm.trans h0_) (by decide), Q_X2_, fun h0_ => absurd ((hoff 6 (by kernel_rfl)).symm.trans h0_) (by decide)⟩
            refine steps_cons ?_ ?_
            · intro b a w' hI_ hb_ hon hoff
              refine ⟨_, rfl, fun K hK => ?_⟩
              obtain ⟨g32, g36, m2_, m6_, ha, Q_HBB, Q_HQ32, Q_HQ36, Q_X2_, Q_X6_⟩ := hI_
              have e30 : a.tmps[30]? = some (.pointer (some ⟨g, 2, none⟩)) := by rw [ha]; exact putSel_on (e := (0, 30, .pointer (some ⟨g, 2, none⟩))) 0 rfl rfl (hon 0 (by kernel_rfl)) rfl
              replace ha := Aside0.mk ha
              have HBB := Aside0.mk Q_HBB
              have hx2 := (HBB.out.cell (blk_lt HX.out)).trans (blk_cell HX.out 2)
              refine value_ (w1 := w') (v := .slice A2 l2.length c2) (by rfl) rfl ?_ ?_
              · go_simp
                (try simp only [i64_w])
                try (first | rfl | assumption)
              refine hK.out _ _ ⟨g32, g36, m2_, m6_, (by rw [ha.out]; exact putSel_upk 1 hb_ rfl rfl rfl), Q_HBB, Q_HQ32, fun h0_ => absurd ((hoff 6 (by kernel_rfl)).symm.trans h0_) (by decide), Q_X2_, fun h0_ => absurd ((hoff 6 (by kernel_rfl)).symm.trans h0_) (by decide)⟩
            refine steps_cons ?_ ?_
            · intro b a w' hI_ hb_ hon hoff
              refine ⟨_, rfl, fun K hK => ?_⟩
              obtain ⟨g32, g36, m2_, m6_, ha, Q_HBB, Q_HQ32, Q_HQ36, Q_X2_, Q_X6_⟩ := hI_
              replace ha := Aside0.mk ha
              have HBB := Aside0.mk Q_HBB
              refine goes_ Try.func40 (by kernel_rfl) rfl #[.func (.func 41) #[] #[]] (by rfl) rfl rfl (by first | (simp only [List.map_toArray, List.map_cons, List.map_nil, Act.eval, Array.getD_eq_getD_getElem?, Option.getD_some]; done) | (simp only [List.map_toArray, List.map_cons, List.map_nil, Act.eval, Array.getD_eq_getD_getElem?, Option.getD_some]; rfl)) ?_
              with_reducible refine (not_calls 41 _).mono ?_
              rintro e w3 ⟨g_, rfl, hq_, hl_, hb_2⟩
              refine ⟨_, rfl, ?_⟩
              refine hK.out _ _ ⟨g_, g36, (.func (.func 52) #[] #[.pointer (some ⟨g_, 0, none⟩)]), m6_, (by rw [ha.out]; exact putSel_upk 2 hb_ rfl rfl rfl), below_step HBB.out hb_2, fun _ => ⟨hl_, hq_⟩, fun h0_ => absurd ((hoff 6 (by kernel_rfl)).symm.trans h0_) (by decide), fun _ => rfl, fun h0_ => absurd ((hoff 6 (by kernel_rfl)).symm.trans h0_) (by decide)⟩
            refine steps_cons ?_ ?_
            · intro b a w' hI_ hb_ hon hoff
              refine ⟨_, rfl, fun K hK => ?_⟩
              obtain ⟨g32, g36, m2_, m6_, ha, Q_HBB, Q_HQ32, Q_HQ36, Q_X2_, Q_X6_⟩ := hI_
              have e31 : a.tmps[31]? = some (.slice A2 l2.length c2) := by rw [ha]; exact putSel_on (e := (1, 31, .slice A2 l2.length c2)) 1 rfl rfl (hon 1 (by kernel_rfl)) rfl
              have e32 : a.tmps[32]? = some (m2_) := by rw [ha]; exact putSel_on (e := (2, 32, m2_)) 2 rfl rfl (hon 2 (by kernel_rfl)) rfl
              rw [Q_X2_ (hon 2 (by kernel_rfl))] at e32
              replace ha := Aside0.mk ha
              have HBB := Aside0.mk Q_HBB
              have HQ32 := Aside0.mk (Q_HQ32 (hon 2 (by kernel_rfl)))
              refine goes_ Try.func39 (by kernel_rfl) rfl #[.slice A2 l2.length c2, .func (.func 52) #[] #[.pointer (some ⟨g32, 0, none⟩)]] (by rfl) rfl rfl (by first | (simp only [List.map_toArray, List.map_cons, List.map_nil, Act.eval, Array.getD_eq_getD_getElem?, Option.getD_some, e31, e32]; done) | (simp only [List.map_toArray, List.map_cons, List.map_nil, Act.eval, Array.getD_eq_getD_getElem?, Option.getD_some, e31, e32]; rfl)) ?_
              with_reducible refine (notTagB false l2 HT7.out A2 c2 g32 _ (Kd.C_below (Kd.C_below HR2.out HB.out) HBB.out) HZT.out HQ32.out.1 HQ32.out.2).mono ?_
              rintro e w3 ⟨rfl, hb_2⟩
              refine ⟨_, rfl, ?_⟩
              refine hK.out _ _ ⟨g32, g36, m2_, m6_, (by rw [ha.out]; exact putSel_upk 3 hb_ rfl rfl rfl), below_step HBB.out hb_2, fun _ => (fnAt_below HQ32.out hb_2), fun h0_ => absurd ((hoff 6 (by kernel_rfl)).symm.trans h0_) (by decide), Q_X2_, fun h0_ => absurd ((hoff 6 (by kernel_rfl)).symm.trans h0_) (by decide)⟩
            refine steps_cons ?_ ?_
            · intro b a w' hI_ hb_ hon hoff
              refine ⟨_, rfl, fun K hK => ?_⟩
              obtain ⟨g32, g36, m2_, m6_, ha, Q_HBB, Q_HQ32, Q_HQ36, Q_X2_, Q_X6_⟩ := hI_
              have e33 : a.tmps[33]? = some (.bool false) := by rw [ha]; exact putSel_on (e := (3, 33, .bool false)) 3 rfl rfl (hon 3 (by kernel_rfl)) rfl
              replace ha := Aside0.mk ha
              have HBB := Aside0.mk Q_HBB
              have HQ32 := Aside0.mk (Q_HQ32 (hon 2 (by kernel_rfl)))
              refine value_ (w1 := w') (v := .bool false) (by rfl) rfl ?_ ?_
              · go_simp
                (try simp only [i64_w])
                try (first | rfl | assumption)
              refine hK.out _ _ ⟨g32, g36, m2_, m6_, (by rw [ha.out]; exact putSel_upk 4 hb_ rfl rfl rfl), Q_HBB, Q_HQ32, fun h0_ => absurd ((hoff 6 (by kernel_rfl)).symm.trans h0_) (by decide), Q_X2_, fun h0_ => absurd ((hoff 6 (by kernel_rfl)).symm.trans h0_) (by decide)⟩
            refine steps_cons ?_ ?_
            · intro b a w' hI_ hb_ hon hoff
              refine ⟨_, rfl, fun K hK => ?_⟩
              obtain ⟨g32, g36, m2_, m6_, ha, Q_HBB, Q_HQ32, Q_HQ36, Q_X2_, Q_X6_⟩ := hI_
              have e3 : a.tmps[3]? = some (.slice A4 nm.length c4) := by rw [ha]; exact (putSel_off rfl).trans rfl
              have e34 : a.tmps[34]? = some (.bool false) := by rw [ha]; exact putSel_on (e := (4, 34, .bool false)) 4 rfl rfl (hon 4 (by kernel_rfl)) rfl
              replace ha := Aside0.mk ha
              have HBB := Aside0.mk Q_HBB
              have HQ32 := Aside0.mk (Q_HQ32 (hon 2 (by kernel_rfl)))
              refine value_ (w1 := w') (v := .slice A4 nm.length c4) (wanted_on rfl rfl rfl (e34.trans (by first | rfl | (simp [*]; done)))) rfl ?_ ?_
              · go_simp
                (try simp only [i64_w])
                try (first | rfl | assumption)
              refine hK.out _ _ ⟨g32, g36, m2_, m6_, (by rw [ha.out]; exact putSel_upk 5 hb_ rfl rfl rfl), Q_HBB, Q_HQ32, Q_HQ36, Q_X2_, Q_X6_⟩
            refine steps_cons ?_ ?_
            · intro b a w' hI_ hb_ hon hoff
              refine ⟨_, rfl, fun K hK => ?_⟩
              obtain ⟨g32, g36, m2_, m6_, ha, Q_HBB, Q_HQ32, Q_HQ36, Q_X2_, Q_X6_⟩ := hI_
              have e34 : a.tmps[34]? = some (.bool false) := by rw [ha]; exact putSel_on (e := (4, 34, .bool false)) 4 rfl rfl (hon 4 (by kernel_rfl)) rfl
              replace ha := Aside0.mk ha
              have HBB := Aside0.mk Q_HBB
              have HQ32 := Aside0.mk (Q_HQ32 (hon 2 (by kernel_rfl)))
              refine goes_ Try.func40 (by kernel_rfl) rfl #[.func (.func 38) #[] #[]] (wanted_on rfl rfl rfl (e34.trans (by first | rfl | (simp [*]; done)))) rfl rfl (by first | (simp only [List.map_toArray, List.map_cons, List.map_nil, Act.eval, Array.getD_eq_getD_getElem?, Option.getD_some, e34]; done) | (simp only [List.map_toArray, List.map_cons, List.map_nil, Act.eval, Array.getD_eq_getD_getElem?, Option.getD_some, e34]; rfl)) ?_
              with_reducible refine (not_calls 38 _).mono ?_
              rintro e w3 ⟨g_, rfl, hq_, hl_, hb_2⟩
              refine ⟨_, rfl, ?_⟩
              refine hK.out _ _ ⟨g32, g_, m2_, (.func (.func 52) #[] #[.pointer (some ⟨g_, 0, none⟩)]), (by rw [ha.out]; exact putSel_upk 6 hb_ rfl rfl rfl), below_step HBB.out hb_2, fun _ => (fnAt_below HQ32.out hb_2), fun _ => ⟨hl_, hq_⟩, Q_X2_, fun _ => rfl⟩
            refine steps_cons ?_ ?_
            · intro b a w' hI_ hb_ hon hoff
              refine ⟨_, rfl, fun K hK => ?_⟩
              obtain ⟨g32, g36, m2_, m6_, ha, Q_HBB, Q_HQ32, Q_HQ36, Q_X2_, Q_X6_⟩ := hI_
              have e35 : a.tmps[35]? = some (.slice A4 nm.length c4) := by rw [ha]; exact putSel_on (e := (5, 35, .slice A4 nm.length c4)) 5 rfl rfl (hon 5 (by kernel_rfl)) rfl
              have e36 : a.tmps[36]? = some (m6_) := by rw [ha]; exact putSel_on (e := (6, 36, m6_)) 6 rfl rfl (hon 6 (by kernel_rfl)) rfl
              rw [Q_X6_ (hon 6 (by kernel_rfl))] at e36
              have e34 : a.tmps[34]? = some (.bool false) := by rw [ha]; exact putSel_on (e := (4, 34, .bool false)) 4 rfl rfl (hon 4 (by kernel_rfl)) rfl
              replace ha := Aside0.mk ha
              have HBB := Aside0.mk Q_HBB
              have HQ32 := Aside0.mk (Q_HQ32 (hon 2 (by kernel_rfl)))
              have HQ36 := Aside0.mk (Q_HQ36 (hon 6 (by kernel_rfl)))
              refine goes_ Try.func39 (by kernel_rfl) rfl #[.slice A4 nm.length c4, .func (.func 52) #[] #[.pointer (some ⟨g36, 0, none⟩)]] (wanted_on rfl rfl rfl (e34.trans (by first | rfl | (simp [*]; done)))) rfl rfl (by first | (simp only [List.map_toArray, List.map_cons, List.map_nil, Act.eval, Array.getD_eq_getD_getElem?, Option.getD_some, e35, e36, e34]; done) | (simp only [List.map_toArray, List.map_cons, List.map_nil, Act.eval, Array.getD_eq_getD_getElem?, Option.getD_some, e35, e36, e34]; rfl)) ?_
              with_reducible refine (notNameB true nm HF7.out A4 c4 g36 _ (Kd.C_below HR4.out HBB.out) HZF.out HQ36.out.1 HQ36.out.2).mono ?_
              rintro e w3 ⟨rfl, hb_2⟩
              refine ⟨_, rfl, ?_⟩
              refine hK.out _ _ ⟨g32, g36, m2_, m6_, (by rw [ha.out]; exact putSel_upk 7 hb_ rfl rfl rfl), below_step HBB.out hb_2, fun _ => (fnAt_below HQ32.out hb_2), fun _ => (fnAt_below HQ36.out hb_2), Q_X2_, Q_X6_⟩
            refine steps_cons ?_ ?_
            · intro b a w' hI_ hb_ hon hoff
              refine ⟨_, rfl, fun K hK => ?_⟩
              obtain ⟨g32, g36, m2_, m6_, ha, Q_HBB, Q_HQ32, Q_HQ36, Q_X2_, Q_X6_⟩ := hI_
              have e34 : a.tmps[34]? = some (.bool false) := by rw [ha]; exact putSel_on (e := (4, 34, .bool false)) 4 rfl rfl (hon 4 (by kernel_rfl)) rfl
              have e37 : a.tmps[37]? = some (.bool true) := by rw [ha]; exact putSel_on (e := (7, 37, .bool true)) 7 rfl rfl (hon 7 (by kernel_rfl)) rfl
              replace ha := Aside0.mk ha
              have HBB := Aside0.mk Q_HBB
              have HQ32 := Aside0.mk (Q_HQ32 (hon 2 (by kernel_rfl)))
              have HQ36 := Aside0.mk (Q_HQ36 (hon 6 (by kernel_rfl)))
              refine value_ (w1 := w') (v := .bool true) (by rfl) rfl ?_ ?_
              · go_simp
                (try simp only [i64_w])
                try (first | rfl | assumption)
              refine hK.out _ _ ⟨g32, g36, m2_, m6_, (by rw [ha.out]; exact putSel_upk 8 hb_ rfl rfl rfl), Q_HBB, Q_HQ32, Q_HQ36, Q_X2_, Q_X6_⟩
            refine steps_cons ?_ ?_
            · intro b a w' hI_ hb_ hon hoff
              refine ⟨_, rfl, fun K hK => ?_⟩
              obtain ⟨g32, g36, m2_, m6_, ha, Q_HBB, Q_HQ32, Q_HQ36, Q_X2_, Q_X6_⟩ := hI_
              have e38 : a.tmps[38]? = some (.bool true) := by rw [ha]; exact putSel_on (e := (8, 38, .bool true)) 8 rfl rfl (hon 8 (by kernel_rfl)) rfl
              replace ha := Aside0.mk ha
              have HBB := Aside0.mk Q_HBB
              have HQ32 := Aside0.mk (Q_HQ32 (hon 2 (by kernel_rfl)))
              have HQ36 := Aside0.mk (Q_HQ36 (hon 6 (by kernel_rfl)))
              refine value_ (w1 := w') (v := .bool true) (by rfl) rfl ?_ ?_
              · go_simp
                (try simp only [i64_w])
                try (first | rfl | assumption)
              refine hK.out _ _ ⟨g32, g36, m2_, m6_, (by rw [ha.out]; exact putSel_upk 9 hb_ rfl rfl rfl), Q_HBB, Q_HQ32, Q_HQ36, Q_X2_, Q_X6_⟩
            exact steps_nil
          rintro b a wz hall ⟨g32, g36, m2_, m6_, ha, Q_HBB, Q_HQ32, Q_HQ36, Q_X2_, Q_X6_⟩
          clear HBB
          have hb0_ := hall 0 (by kernel_rfl)
          have hb1_ := hall 1 (by kernel_rfl)
          have hb2_ := hall 2 (by kernel_rfl)
          have hb3_ := hall 3 (by kernel_rfl)
          have hb4_ := hall 4 (by kernel_rfl)
          have hb5_ := hall 5 (by kernel_rfl)
          have hb6_ := hall 6 (by kernel_rfl)
          have hb7_ := hall 7 (by kernel_rfl)
          have hb8_ := hall 8 (by kernel_rfl)
          have hb9_ := hall 9 (by kernel_rfl)
          subst ha
          obtain rfl := Q_X2_ hb2_
          obtain rfl := Q_X6_ hb6_
          simp only [putSel, hb0_, hb1_, hb2_, hb3_, hb4_, hb5_, hb6_, hb7_, hb8_, hb9_, if_true, Act.put, List.setIfInBounds_toArray, List.set_cons_zero, List.set_cons_succ]
          have HBB := Aside0.mk Q_HBB
          clear Q_HBB
          have HQ32 := Aside0.mk (Q_HQ32 hb2_)
          clear Q_HQ32
          have HQ36 := Aside0.mk (Q_HQ36 hb6_)
          clear Q_HQ36
          clear hall hb0_ hb1_ hb2_ hb3_ hb4_ hb5_ hb6_ hb7_ hb8_ hb9_
          go_wp2
          go_ret
          exact ⟨ret_i64 HG.out.symm, below_step HB.out HBB.out⟩
        | false =>
          have HF7 := Aside0.mk h8
          have H56 := Aside0.mk (H34.out.trans (if_neg (by rw [h7, h8]; simp)))
          clear H34 h7 h8
          refine start_ (n := 10) (S := fun w' => True) (ds := []) #[false, false, false, false, false, false, false, false, false, false] (by kernel_rfl) rfl rfl trivial (fun hHeld => ?_); refine with_tabW D22.tab7 D22.bits7 (fun HT_ HW_ => ?_)
          refine inv_at [0, 1, 2, 3, 4, 5, 6, 7, 8, 9] (fun a0_ b a w' => ∃ (g32 : Nat) (g36 : Nat) (m2_ : Value) (m6_ : Value), a = putSel a0_ b [(0, 30, .pointer (some ⟨g, 2, none⟩)), (1, 31, .slice A2 l2.length c2), (2, 32, m2_), (3, 33, .bool false), (4, 34, .bool false), (5, 35, .slice A4 nm.length c4), (6, 36, m6_), (7, 37, .bool false), (8, 38, .bool false), (9, 29, .bool false)] ∧ (Below w5.heap.size w5 w') ∧ (b 2 = true → (g32 < w'.heap.size ∧ w'.cell? ⟨g32, 0, none⟩ = some (.func (.func 41) #[] #[]))) ∧ (b 6 = true → (g36 < w'.heap.size ∧ w'.cell? ⟨g36, 0, none⟩ = some (.func (.func 38) #[] #[]))) ∧ (b 2 = true → (m2_ : Value) = .func (.func 52) #[] #[.pointer (some ⟨g32, 0, none⟩)]) ∧ (b 6 = true → (m6_ : Value) = .func (.func 52) #[] #[.pointer (some ⟨g36, 0, none⟩)])) HT_.out HW_.out (by kernel_rfl) (by kernel_rfl) ?_ ?_ ?_
          · exact ⟨0, 0, .bool false, .bool false, by simp only [putSel, Bool.false_eq_true, if_false], HBB.out, fun h_ => absurd h_ (by decide), fun h_ => absurd h_ (by decide), fun h_ => absurd h_ (by decide), fun h_ => absurd h_ (by decide)⟩
          · clear HT_ HW_ hHeld
            clear HBB
            refine steps_cons ?_ ?_
            · intro b a w' hI_ hb_ hon hoff
              refine ⟨_, rfl, fun K hK => ?_⟩
              obtain ⟨g32, g36, m2_, m6_, ha, Q_HBB, Q_HQ32, Q_HQ36, Q_X2_, Q_X6_⟩ := hI_
              have e1 : a.tmps[1]? = some (.pointer (some ⟨g, 0, none⟩)) := by rw [ha]; exact (putSel_off rfl).trans rfl
              replace ha := Aside0.mk ha
              have HBB := Aside0.mk Q_HBB
              refine value_ (w1 := w') (v := .pointer (some ⟨g, 2, none⟩)) (by rfl) rfl ?_ ?_
              · go_simp
                (try simp only [i64_w])
                try (first | rfl | assumption)
              refine hK.out _ _ ⟨g32, g36, m2_, m6_, (by rw [ha.out]; exact putSel_upk 0 hb_ rfl rfl rfl), Q_HBB, Q_HQ32, fun h0_ => absurd ((hoff 6 (by kernel_rfl)).symm.trans h0_) (by decide), Q_X2_, fun h0_ => absurd ((hoff 6 (by kernel_rfl)).symm.trans h0_) (by decide)⟩
            refine steps_cons ?_ ?_
            · intro b a w' hI_ hb_ hon hoff
              refine ⟨_, rfl, fun K hK => ?_⟩
              obtain ⟨g32, g36, m2_, m6_, ha, Q_HBB, Q_HQ32, Q_HQ36, Q_X2_, Q_X6_⟩ := hI_
              have e30 : a.tmps[30]? = some (.pointer (some ⟨g, 2, none⟩)) := by rw [ha]; exact putSel_on (e := (0, 30, .pointer (some ⟨g, 2, none⟩))) 0 rfl rfl (hon 0 (by kernel_rfl)) rfl
              replace ha := Aside0.mk ha
              have HBB := Aside0.mk Q_HBB
              have hx2 := (HBB.out.cell (blk_lt HX.out)).trans (blk_cell HX.out 2)
              refine value_ (w1 := w') (v := .slice A2 l2.length c2) (by rfl) rfl ?_ ?_
              · go_simp
                (try simp only [i64_w])
                try (first | rfl | assumption)
              refine hK.out _ _ ⟨g32, g36, m2_, m6_, (by rw [ha.out]; exact putSel_upk 1 hb_ rfl rfl rfl), Q_HBB, Q_HQ32, fun h0_ => absurd ((hoff 6 (by kernel_rfl)).symm.trans h0_) (by decide), Q_X2_, fun h0_ => absurd ((hoff 6 (by kernel_rfl)).symm.trans h0_) (by decide)⟩
            refine steps_cons ?_ ?_
            · intro b a w' hI_ hb_ hon hoff
              refine ⟨_, rfl, fun K hK => ?_⟩
              obtain ⟨g32, g36, m2_, m6_, ha, Q_HBB, Q_HQ32, Q_HQ36, Q_X2_, Q_X6_⟩ := hI_
              replace ha := Aside0.mk ha
              have HBB := Aside0.mk Q_HBB
              refine goes_ Try.func40 (by kernel_rfl) rfl #[.func (.func 41) #[] #[]] (by rfl) rfl rfl (by first | (simp only [List.map_toArray, List.map_cons, List.map_nil, Act.eval, Array.getD_eq_getD_getElem?, Option.getD_some]; done) | (simp only [List.map_toArray, List.map_cons, List.map_nil, Act.eval, Array.getD_eq_getD_getElem?, Option.getD_some]; rfl)) ?_
              with_reducible refine (not_calls 41 _).mono ?_
              rintro e w3 ⟨g_, rfl, hq_, hl_, hb_2⟩
              refine ⟨_, rfl, ?_⟩
              refine hK.out _ _ ⟨g_, g36, (.func (.func 52) #[] #[.pointer (some ⟨g_, 0, none⟩)]), m6_, (by rw [ha.out]; exact putSel_upk 2 hb_ rfl rfl rfl), below_step HBB.out hb_2, fun _ => ⟨hl_, hq_⟩, fun h0_ => absurd ((hoff 6 (by kernel_rfl)).symm.trans h0_) (by decide), fun _ => rfl, fun h0_ => absurd ((hoff 6 (by kernel_rfl)).symm.trans h0_) (by decide)⟩
            refine steps_cons ?_ ?_
            · intro b a w' hI_ hb_ hon hoff
              refine ⟨_, rfl, fun K hK => ?_⟩
              obtain ⟨g32, g36, m2_, m6_, ha, Q_HBB, Q_HQ32, Q_HQ36, Q_X2_, Q_X6_⟩ := hI_
              have e31 : a.tmps[31]? = some (.slice A2 l2.length c2) := by rw [ha]; exact putSel_on (e := (1, 31, .slice A2 l2.length c2)) 1 rfl rfl (hon 1 (by kernel_rfl)) rfl
              have e32 : a.tmps[32]? = some (m2_) := by rw [ha]; exact putSel_on (e := (2, 32, m2_)) 2 rfl rfl (hon 2 (by kernel_rfl)) rfl
              rw [Q_X2_ (hon 2 (by kernel_rfl))] at e32
              replace ha := Aside0.mk ha
              have HBB := Aside0.mk Q_HBB
              have HQ32 := Aside0.mk (Q_HQ32 (hon 2 (by kernel_rfl)))
              refine goes_ Try.func39 (by kernel_rfl) rfl #[.slice A2 l2.length c2, .func (.func 52) #[] #[.pointer (some ⟨g32, 0, none⟩)]] (by rfl) rfl rfl (by first | (simp only [List.map_toArray, List.map_cons, List.map_nil, Act.eval, Array.getD_eq_getD_getElem?, Option.getD_some, e31, e32]; done) | (simp only [List.map_toArray, List.map_cons, List.map_nil, Act.eval, Array.getD_eq_getD_getElem?, Option.getD_some, e31, e32]; rfl)) ?_
              with_reducible refine (notTagB false l2 HT7.out A2 c2 g32 _ (Kd.C_below (Kd.C_below HR2.out HB.out) HBB.out) HZT.out HQ32.out.1 HQ32.out.2).mono ?_
              rintro e w3 ⟨rfl, hb_2⟩
              refine ⟨_, rfl, ?_⟩
              refine hK.out _ _ ⟨g32, g36, m2_, m6_, (by rw [ha.out]; exact putSel_upk 3 hb_ rfl rfl rfl), below_step HBB.out hb_2, fun _ => (fnAt_below HQ32.out hb_2), fun h0_ => absurd ((hoff 6 (by kernel_rfl)).symm.trans h0_) (by decide), Q_X2_, fun h0_ => absurd ((hoff 6 (by kernel_rfl)).symm.trans h0_) (by decide)⟩
            refine steps_cons ?_ ?_
            · intro b a w' hI_ hb_ hon hoff
              refine ⟨_, rfl, fun K hK => ?_⟩
              obtain ⟨g32, g36, m2_, m6_, ha, Q_HBB, Q_HQ32, Q_HQ36, Q_X2_, Q_X6_⟩ := hI_
              have e33 : a.tmps[33]? = some (.bool false) := by rw [ha]; exact putSel_on (e := (3, 33, .bool false)) 3 rfl rfl (hon 3 (by kernel_rfl)) rfl
              replace ha := Aside0.mk ha
              have HBB := Aside0.mk Q_HBB
              have HQ32 := Aside0.mk (Q_HQ32 (hon 2 (by kernel_rfl)))
              refine value_ (w1 := w') (v := .bool false) (by rfl) rfl ?_ ?_
              · go_simp
                (try simp only [i64_w])
                try (first | rfl | assumption)
              refine hK.out _ _ ⟨g32, g36, m2_, m6_, (by rw [ha.out]; exact putSel_upk 4 hb_ rfl rfl rfl), Q_HBB, Q_HQ32, fun h0_ => absurd ((hoff 6 (by kernel_rfl)).symm.trans h0_) (by decide), Q_X2_, fun h0_ => absurd ((hoff 6 (by kernel_rfl)).symm.trans h0_) (by decide)⟩
            refine steps_cons ?_ ?_
            · intro b a w' hI_ hb_ hon hoff
              refine ⟨_, rfl, fun K hK => ?_⟩
              obtain ⟨g32, g36, m2_, m6_, ha, Q_HBB, Q_HQ32, Q_HQ36, Q_X2_, Q_X6_⟩ := hI_
              have e3 : a.tmps[3]? = some (.slice A4 nm.length c4) := by rw [ha]; exact (putSel_off rfl).trans rfl
              have e34 : a.tmps[34]? = some (.bool false) := by rw [ha]; exact putSel_on (e := (4, 34, .bool false)) 4 rfl rfl (hon 4 (by kernel_rfl)) rfl
              replace ha := Aside0.mk ha
              have HBB := Aside0.mk Q_HBB
              have HQ32 := Aside0.mk (Q_HQ32 (hon 2 (by kernel_rfl)))
              refine value_ (w1 := w') (v := .slice A4 nm.length c4) (wanted_on rfl rfl rfl (e34.trans (by first | rfl | (simp [*]; done)))) rfl ?_ ?_
              · go_simp
                (try simp only [i64_w])
                try (first | rfl | assumption)
              refine hK.out _ _ ⟨g32, g36, m2_, m6_, (by rw [ha.out]; exact putSel_upk 5 hb_ rfl rfl rfl), Q_HBB, Q_HQ32, Q_HQ36, Q_X2_, Q_X6_⟩
            refine steps_cons ?_ ?_
            · intro b a w' hI_ hb_ hon hoff
              refine ⟨_, rfl, fun K hK => ?_⟩
              obtain ⟨g32, g36, m2_, m6_, ha, Q_HBB, Q_HQ32, Q_HQ36, Q_X2_, Q_X6_⟩ := hI_
              have e34 : a.tmps[34]? = some (.bool false) := by rw [ha]; exact putSel_on (e := (4, 34, .bool false)) 4 rfl rfl (hon 4 (by kernel_rfl)) rfl
              replace ha := Aside0.mk ha
              have HBB := Aside0.mk Q_HBB
              have HQ32 := Aside0.mk (Q_HQ32 (hon 2 (by kernel_rfl)))
              refine goes_ Try.func40 (by kernel_rfl) rfl #[.func (.func 38) #[] #[]] (wanted_on rfl rfl rfl (e34.trans (by first | rfl | (simp [*]; done)))) rfl rfl (by first | (simp only [List.map_toArray, List.map_cons, List.map_nil, Act.eval, Array.getD_eq_getD_getElem?, Option.getD_some, e34]; done) | (simp only [List.map_toArray, List.map_cons, List.map_nil, Act.eval, Array.getD_eq_getD_getElem?, Option.getD_some, e34]; rfl)) ?_
              with_reducible refine (not_calls 38 _).mono ?_
              rintro e w3 ⟨g_, rfl, hq_, hl_, hb_2⟩
              refine ⟨_, rfl, ?_⟩
              refine hK.out _ _ ⟨g32, g_, m2_, (.func (.func 52) #[] #[.pointer (some ⟨g_, 0, none⟩)]), (by rw [ha.out]; exact putSel_upk 6 hb_ rfl rfl rfl), below_step HBB.out hb_2, fun _ => (fnAt_below HQ32.out hb_2), fun _ => ⟨hl_, hq_⟩, Q_X2_, fun _ => rfl⟩
            refine steps_cons ?_ ?_
            · intro b a w' hI_ hb_ hon hoff
              refine ⟨_, rfl, fun K hK => ?_⟩
              obtain ⟨g32, g36, m2_, m6_, ha, Q_HBB, Q_HQ32, Q_HQ36, Q_X2_, Q_X6_⟩ := hI_
              have e35 : a.tmps[35]? = some (.slice A4 nm.length c4) := by rw [ha]; exact putSel_on (e := (5, 35, .slice A4 nm.length c4)) 5 rfl rfl (hon 5 (by kernel_rfl)) rfl
              have e36 : a.tmps[36]? = some (m6_) := by rw [ha]; exact putSel_on (e := (6, 36, m6_)) 6 rfl rfl (hon 6 (by kernel_rfl)) rfl
              rw [Q_X6_ (hon 6 (by kernel_rfl))] at e36
              have e34 : a.tmps[34]? = some (.bool false) := by rw [ha]; exact putSel_on (e := (4, 34, .bool false)) 4 rfl rfl (hon 4 (by kernel_rfl)) rfl
              replace ha := Aside0.mk ha
              have HBB := Aside0.mk Q_HBB
              have HQ32 := Aside0.mk (Q_HQ32 (hon 2 (by kernel_rfl)))
              have HQ36 := Aside0.mk (Q_HQ36 (hon 6 (by kernel_rfl)))
              refine goes_ Try.func39 (by kernel_rfl) rfl #[.slice A4 nm.length c4, .func (.func 52) #[] #[.pointer (some ⟨g36, 0, none⟩)]] (wanted_on rfl rfl rfl (e34.trans (by first | rfl | (simp [*]; done)))) rfl rfl (by first | (simp only [List.map_toArray, List.map_cons, List.map_nil, Act.eval, Array.getD_eq_getD_getElem?, Option.getD_some, e35, e36, e34]; done) | (simp only [List.map_toArray, List.map_cons, List.map_nil, Act.eval, Array.getD_eq_getD_getElem?, Option.getD_some, e35, e36, e34]; rfl)) ?_
              with_reducible refine (notNameB false nm HF7.out A4 c4 g36 _ (Kd.C_below HR4.out HBB.out) HZF.out HQ36.out.1 HQ36.out.2).mono ?_
              rintro e w3 ⟨rfl, hb_2⟩
              refine ⟨_, rfl, ?_⟩
              refine hK.out _ _ ⟨g32, g36, m2_, m6_, (by rw [ha.out]; exact putSel_upk 7 hb_ rfl rfl rfl), below_step HBB.out hb_2, fun _ => (fnAt_below HQ32.out hb_2), fun _ => (fnAt_below HQ36.out hb_2), Q_X2_, Q_X6_⟩
            refine steps_cons ?_ ?_
            · intro b a w' hI_ hb_ hon hoff
              refine ⟨_, rfl, fun K hK => ?_⟩
              obtain ⟨g32, g36, m2_, m6_, ha, Q_HBB, Q_HQ32, Q_HQ36, Q_X2_, Q_X6_⟩ := hI_
              have e34 : a.tmps[34]? = some (.bool false) := by rw [ha]; exact putSel_on (e := (4, 34, .bool false)) 4 rfl rfl (hon 4 (by kernel_rfl)) rfl
              have e37 : a.tmps[37]? = some (.bool false) := by rw [ha]; exact putSel_on (e := (7, 37, .bool false)) 7 rfl rfl (hon 7 (by kernel_rfl)) rfl
              replace ha := Aside0.mk ha
              have HBB := Aside0.mk Q_HBB
              have HQ32 := Aside0.mk (Q_HQ32 (hon 2 (by kernel_rfl)))
              have HQ36 := Aside0.mk (Q_HQ36 (hon 6 (by kernel_rfl)))
              refine value_ (w1 := w') (v := .bool false) (by rfl) rfl ?_ ?_
              · go_simp
                (try simp only [i64_w])
                try (first | rfl | assumption)
              refine hK.out _ _ ⟨g32, g36, m2_, m6_, (by rw [ha.out]; exact putSel_upk 8 hb_ rfl rfl rfl), Q_HBB, Q_HQ32, Q_HQ36, Q_X2_, Q_X6_⟩
            refine steps_cons ?_ ?_
            · intro b a w' hI_ hb_ hon hoff
              refine ⟨_, rfl, fun K hK => ?_⟩
              obtain ⟨g32, g36, m2_, m6_, ha, Q_HBB, Q_HQ32, Q_HQ36, Q_X2_, Q_X6_⟩ := hI_
              have e38 : a.tmps[38]? = some (.bool false) := by rw [ha]; exact putSel_on (e := (8, 38, .bool false)) 8 rfl rfl (hon 8 (by kernel_rfl)) rfl
              replace ha := Aside0.mk ha
              have HBB := Aside0.mk Q_HBB
              have HQ32 := Aside0.mk (Q_HQ32 (hon 2 (by kernel_rfl)))
              have HQ36 := Aside0.mk (Q_HQ36 (hon 6 (by kernel_rfl)))
              refine value_ (w1 := w') (v := .bool false) (by rfl) rfl ?_ ?_
              · go_simp
                (try simp only [i64_w])
                try (first | rfl | assumption)
              refine hK.out _ _ ⟨g32, g36, m2_, m6_, (by rw [ha.out]; exact putSel_upk 9 hb_ rfl rfl rfl), Q_HBB, Q_HQ32, Q_HQ36, Q_X2_, Q_X6_⟩
            exact steps_nil
          rintro b a wz hall ⟨g32, g36, m2_, m6_, ha, Q_HBB, Q_HQ32, Q_HQ36, Q_X2_, Q_X6_⟩
          clear HBB
          have hb0_ := hall 0 (by kernel_rfl)
          have hb1_ := hall 1 (by kernel_rfl)
          have hb2_ := hall 2 (by kernel_rfl)
          have hb3_ := hall 3 (by kernel_rfl)
          have hb4_ := hall 4 (by kernel_rfl)
          have hb5_ := hall 5 (by kernel_rfl)
          have hb6_ := hall 6 (by kernel_rfl)
          have hb7_ := hall 7 (by kernel_rfl)
          have hb8_ := hall 8 (by kernel_rfl)
          have hb9_ := hall 9 (by kernel_rfl)
          subst ha
          obtain rfl := Q_X2_ hb2_
          obtain rfl := Q_X6_ hb6_
          simp only [putSel, hb0_, hb1_, hb2_, hb3_, hb4_, hb5_, hb6_, hb7_, hb8_, hb9_, if_true, Act.put, List.setIfInBounds_toArray, List.set_cons_zero, List.set_cons_succ]
          have HBB := Aside0.mk Q_HBB
          clear Q_HBB
          have HQ32 := Aside0.mk (Q_HQ32 hb2_)
          clear Q_HQ32
          have HQ36 := Aside0.mk (Q_HQ36 hb6_)
          clear Q_HQ36
          clear hall hb0_ hb1_ hb2_ hb3_ hb4_ hb5_ hb6_ hb7_ hb8_ hb9_
          have hb := HBB.out; have n1_ := Aside0.mk (below_step HB.out hb); have n2_ := Aside0.mk (blk_below HX.out hb); clear HB HX; have HB := n1_; have HX := n2_; clear n1_ n2_; have n1_ := Aside0.mk (Kd.C_below HR4.out hb); clear HR4; have HR4 := n1_; clear n1_ hb; clear hx0 hx1 hx2 hx3; have hx0 := blk_cell HX.out 0; have hx1 := blk_cell HX.out 1; have hx2 := blk_cell HX.out 2; have hx3 := blk_cell HX.out 3; clear HBB
          clear HT7 HF7
          go_wp2_with fail
          refine (event_rise.calls (l2.length + 1) A2 c2 l2 (riseB l2) wz (Kd.C_below HR2.out HB.out) HC2.out (rise_val l2 hm2)).mono ?_
          rintro e w6 ⟨rfl, hd⟩
          have hb := hd.below
          clear hd
          have n1_ := Aside0.mk (below_step HB.out hb); have n2_ := Aside0.mk (blk_below HX.out hb); clear HB HX; have HB := n1_; have HX := n2_; clear n1_ n2_; have n1_ := Aside0.mk (Kd.C_below HR4.out hb); clear HR4; have HR4 := n1_; clear n1_ hb; clear hx0 hx1 hx2 hx3; have hx0 := blk_cell HX.out 0; have hx1 := blk_cell HX.out 1; have hx2 := blk_cell HX.out 2; have hx3 := blk_cell HX.out 3
          cases hq1 : riseB l2 with
          | false =>
            have HG := Aside0.mk (H56.out.trans (if_pos (.inl hq1)))
            clear hq1
            go_wp2
            go_ret
            exact ⟨ret_i64 HG.out.symm, HB.out⟩
          | true =>
          go_wp2_with fail
          refine (event_rise.calls (nm.length + 1) A4 c4 nm (riseB nm) w6 HR4.out HC4.out (rise_val nm (Kd.C_max HR4.out))).mono ?_
          rintro e w7 ⟨rfl, hd⟩
          have hb := hd.below
          clear hd
          have n1_ := Aside0.mk (below_step HB.out hb); have n2_ := Aside0.mk (blk_below HX.out hb); clear HB HX; have HB := n1_; have HX := n2_; clear n1_ n2_; have n1_ := Aside0.mk (Kd.C_below HR4.out hb); clear HR4; have HR4 := n1_; clear n1_ hb; clear hx0 hx1 hx2 hx3; have hx0 := blk_cell HX.out 0; have hx1 := blk_cell HX.out 1; have hx2 := blk_cell HX.out 2; have hx3 := blk_cell HX.out 3
          cases hq2 : riseB nm with
          | false =>
            have HG := Aside0.mk (H56.out.trans (if_pos (.inr (.inl hq2))))
            clear hq1 hq2
            go_wp2
            go_ret
            exact ⟨ret_i64 HG.out.symm, HB.out⟩
          | true =>
          go_wp2_with fail
          refine (overC l3 A3 c3 w7 (Kd.C_below HR3.out HB.out)).mono ?_
          rintro e w8 ⟨rfl, hb⟩
          have n1_ := Aside0.mk (below_step HB.out hb); have n2_ := Aside0.mk (blk_below HX.out hb); clear HB HX; have HB := n1_; have HX := n2_; clear n1_ n2_; have n1_ := Aside0.mk (Kd.C_below HR4.out hb); clear HR4; have HR4 := n1_; clear n1_ hb; clear hx0 hx1 hx2 hx3; have hx0 := blk_cell HX.out 0; have hx1 := blk_cell HX.out 1; have hx2 := blk_cell HX.out 2; have hx3 := blk_cell HX.out 3
          cases hq3 : l3.any overB with
          | true =>
            have HG := Aside0.mk (H56.out.trans (if_pos (.inr (.inr hq3))))
            clear hq1 hq2 hq3
            go_wp2
            go_ret
            exact ⟨ret_i64 HG.out.symm, HB.out⟩
          | false =>
            have HG := Aside0.mk (H56.out.trans (if_neg (by rw [hq1, hq2, hq3]; simp)))
            clear hq1 hq2 hq3
            go_wp2
            go_ret
            exact ⟨ret_i64 HG.out.symm, HB.out⟩
end Go.Proofs.Ytmnidohgnnpeiaa.Nam
namespace Go.Proofs.Ytmnidohgnnpeiaa.Prt
open Go.RowKit Go.Proofs.YtmnidohgnnpeiaaW.PrintWords Go.Proofs.YtmnidohgnnpeiaaW.PrintLast Go.Proofs.YtmnidohgnnpeiaaW.PrintMore Go.Proofs.Ytmnidohgnnpeiaa.Num Go.Proofs.Ytmnidohgnnpeiaa.Nam
set_option linter.unusedVariables false
set_option linter.unusedSimpArgs false

/-- No text of these is longer than any can be. -/
def fitE (s t : ByteArray) (tags : List ByteArray) (fl : List S35) : Bool := decide (s.size ≤ 9223372036854775807) && decide (t.size ≤ 9223372036854775807) && (tags.all fun x => decide (x.size ≤ 9223372036854775807)) && (fl.all fun x => decide (x.f0.size ≤ 9223372036854775807)) && decide (fl.length < 8796093022208)
theorem fitE_iff {s t : ByteArray} {tags : List ByteArray} {fl : List S35} : fitE s t tags fl = true ↔ s.size ≤ 9223372036854775807 ∧ t.size ≤ 9223372036854775807 ∧ (∀ x ∈ tags, x.size ≤ 9223372036854775807) ∧ (∀ x ∈ fl, x.f0.size ≤ 9223372036854775807) ∧ fl.length < 8796093022208 := by
  unfold fitE
  simp only [Bool.and_eq_true, decide_eq_true_eq, List.all_eq_true, and_assoc]
def event_May.f (a0_0 : ByteArray) (a0_1 : ByteArray) (l0_2 : List ByteArray) (l0_3 : List (S35)) : Option (Int) := if fitE a0_0 a0_1 l0_2 l0_3 = true then some (mayE a0_0 a0_1 l0_2 l0_3) else none
theorem event_May.calls (a0_0 : ByteArray) (a0_1 : ByteArray) (A0_2 : Option Addr) (c0_2 : Nat) (l0_2 : List ByteArray) (A0_3 : Option Addr) (c0_3 : Nat) (l0_3 : List (S35)) (r : Int) (w : World) (hr0_2 : Kd.C Kd.string w A0_2 l0_2.length l0_2) (hc0_2 : l0_2.length ≤ c0_2) (hr0_3 : Kd.C k35 w A0_3 l0_3.length l0_3) (hc0_3 : l0_3.length ≤ c0_3) (h : event_May.f a0_0 a0_1 l0_2 l0_3 = some r) :
    Calls Try.prog 22 #[.agg #[.string a0_0, .string a0_1, .slice A0_2 l0_2.length c0_2, .slice A0_3 l0_3.length c0_3]] w fun e w' => e = .returned (.int .i64 r) ∧ Below w.heap.size w w' := by
  unfold event_May.f at h
  by_cases hf : fitE a0_0 a0_1 l0_2 l0_3 = true
  · rw [if_pos hf] at h
    obtain rfl := Option.some.inj h
    obtain ⟨h1, h2, h3, h4, h5⟩ := fitE_iff.1 hf
    exact eventMay_calls a0_0 a0_1 A0_2 A0_3 c0_2 c0_3 l0_2 l0_3 w hr0_2 hc0_2 hr0_3 hc0_3 h1 h2 h3 h4 h5
  · rw [if_neg hf] at h; cases h
end Go.Proofs.Ytmnidohgnnpeiaa.Prt
namespace Go.Proofs.Ytmnidohgnnpeiaa.Prt
open Go.RowKit Go.Proofs.YtmnidohgnnpeiaaW.PrintWords Go.Proofs.YtmnidohgnnpeiaaW.PrintLast Go.Proofs.YtmnidohgnnpeiaaW.PrintMore
attribute [local go_sem] max2_int min2_int max_two min_two max_three min_three max_four min_four   -- for this text's walks alone
set_option linter.unusedVariables false
set_option linter.unusedSimpArgs false

theorem eqA35 (d : Nat) (w : World) (x0 y0 : ByteArray) (x1 y1 : Int) :
    (Op.equalIn (d + 2) 35 (.agg #[.string x0, .int .i64 x1]) (.agg #[.string y0, .int .i64 y1])).run Try.prog w = .ok (x0.toList == y0.toList && (x1 == y1)) w := by
  refine eqA_of Try.underlying35 (by kernel_rfl) ?_
  refine eqf_cons (by rfl) (by go_simp; rfl) (by go_simp; rfl) (by go_simp) ?_
  exact eqf_last (by rfl) (by go_simp; rfl) (by go_simp; rfl) (by go_simp)
end Go.Proofs.Ytmnidohgnnpeiaa.Prt
namespace Go.Proofs.Ytmnidohgnnpeiaa.Prt
open Go.RowKit Go.Proofs.YtmnidohgnnpeiaaW.PrintWords Go.Proofs.YtmnidohgnnpeiaaW.PrintLast Go.Proofs.YtmnidohgnnpeiaaW.PrintMore
attribute [local go_sem] max2_int min2_int max_two min_two max_three min_three max_four min_four   -- for this text's walks alone
set_option linter.unusedVariables false
set_option linter.unusedSimpArgs false

attribute [local go_sem high] eqA35
/-! ### registrarref04_Same: function 13 -/
mutual
def registrarref04_Same.j0 : Nat → Bool → ByteArray → ByteArray → List ByteArray → List (S35) → ByteArray → ByteArray → List ByteArray → List (S35) → Option (Bool)
  | 0, _, _, _, _, _, _, _, _, _ => none
  | k + 1, x36, x257000, x257001, x257002, x257003, x258000, x258001, x258002, x258003 => if x36 = true then (some false) else (registrarref04_Same.l0 k 0 x257000 x257001 x257002 x257003 x258000 x258001 x258002 x258003)
def registrarref04_Same.l0 : Nat → Int → ByteArray → ByteArray → List ByteArray → List (S35) → ByteArray → ByteArray → List ByteArray → List (S35) → Option (Bool)
  | 0, _, _, _, _, _, _, _, _, _ => none
  | k + 1, x6, x257000, x257001, x257002, x257003, x258000, x258001, x258002, x258003 => if x6 < (x257003.length : Int) then (if 0 ≤ x6 then (if x6 < (x258003.length : Int) then (if (!((((rd_T35 x257003 x6).f0).toList) == (((rd_T35 x258003 x6).f0).toList)) || (!(((rd_T35 x257003 x6).f1) == ((rd_T35 x258003 x6).f1)))) = true then (some false) else (registrarref04_Same.l0 k (wrap64 (x6 + 1)) x257000 x257001 x257002 x257003 x258000 x258001 x258002 x258003)) else (none)) else (none)) else (some true)
end
def registrarref04_Same.f (k : Nat) (a0_0 : ByteArray) (a0_1 : ByteArray) (l0_2 : List ByteArray) (l0_3 : List (S35)) (a1_0 : ByteArray) (a1_1 : ByteArray) (l1_2 : List ByteArray) (l1_3 : List (S35)) : Option (Bool) := (registrarref04_TextsG.f l0_2 l1_2).bind fun t258 => (if a0_0.toList = a1_0.toList then (if a0_1.toList = a1_1.toList then (if t258 = true then (registrarref04_Same.j0 k ((l0_3.length : Int) != (l1_3.length : Int)) a0_0 a0_1 l0_2 l0_3 a1_0 a1_1 l1_2 l1_3) else (registrarref04_Same.j0 k true a0_0 a0_1 l0_2 l0_3 a1_0 a1_1 l1_2 l1_3)) else (registrarref04_Same.j0 k true a0_0 a0_1 l0_2 l0_3 a1_0 a1_1 l1_2 l1_3)) else (registrarref04_Same.j0 k true a0_0 a0_1 l0_2 l0_3 a1_0 a1_1 l1_2 l1_3))
theorem registrarref04_Same.mono_l : ∀ k, (∀ y0 y1 y2 y3 y4 y5 y6 y7 y8, LeO (registrarref04_Same.j0 k y0 y1 y2 y3 y4 y5 y6 y7 y8) (registrarref04_Same.j0 (k + 1) y0 y1 y2 y3 y4 y5 y6 y7 y8)) ∧ (∀ y0 y1 y2 y3 y4 y5 y6 y7 y8, LeO (registrarref04_Same.l0 k y0 y1 y2 y3 y4 y5 y6 y7 y8) (registrarref04_Same.l0 (k + 1) y0 y1 y2 y3 y4 y5 y6 y7 y8))
  | 0 => ⟨fun _ _ _ _ _ _ _ _ _ r h => by simp [registrarref04_Same.j0] at h, fun _ _ _ _ _ _ _ _ _ r h => by simp [registrarref04_Same.l0] at h⟩
  | k + 1 => by
    obtain ⟨ih0, ih1⟩ := registrarref04_Same.mono_l k
    refine ⟨?_, ?_⟩
    · intro y0 y1 y2 y3 y4 y5 y6 y7 y8
      unfold registrarref04_Same.j0
      repeat' first
      | (with_reducible exact ih0 _ _ _ _ _ _ _ _ _)
      | (with_reducible exact ih1 _ _ _ _ _ _ _ _ _)
      | (with_reducible exact LeO.refl _)
      | (with_reducible exact LeO.none _)
      | (with_reducible refine LeO.ite ?_ ?_)
      | (with_reducible refine LeO.bind ?_ (fun _ => ?_))
      | exact ih0 _ _ _ _ _ _ _ _ _
      | exact ih1 _ _ _ _ _ _ _ _ _
      | exact LeO.none _
      | refine LeO.ite ?_ ?_
      | refine LeO.bind ?_ (fun _ => ?_)
    · intro y0 y1 y2 y3 y4 y5 y6 y7 y8
      unfold registrarref04_Same.l0
      repeat' first
      | (with_reducible exact ih0 _ _ _ _ _ _ _ _ _)
      | (with_reducible exact ih1 _ _ _ _ _ _ _ _ _)
      | (with_reducible exact LeO.refl _)
      | (with_reducible exact LeO.none _)
      | (with_reducible refine LeO.ite ?_ ?_)
      | (with_reducible refine LeO.bind ?_ (fun _ => ?_))
      | exact ih0 _ _ _ _ _ _ _ _ _
      | exact ih1 _ _ _ _ _ _ _ _ _
      | exact LeO.none _
      | refine LeO.ite ?_ ?_
      | refine LeO.bind ?_ (fun _ => ?_)
theorem registrarref04_Same.mono : ∀ a0 a1 a2 a3 a4 a5 a6 a7 k, LeO (registrarref04_Same.f k a0 a1 a2 a3 a4 a5 a6 a7) (registrarref04_Same.f (k + 1) a0 a1 a2 a3 a4 a5 a6 a7) := by
  intro a0 a1 a2 a3 a4 a5 a6 a7 k
  obtain ⟨ih0, ih1⟩ := registrarref04_Same.mono_l k
  unfold registrarref04_Same.f
  repeat' first
      | (with_reducible exact ih0 _ _ _ _ _ _ _ _ _)
      | (with_reducible exact ih1 _ _ _ _ _ _ _ _ _)
      | (with_reducible exact LeO.refl _)
      | (with_reducible exact LeO.none _)
      | (with_reducible refine LeO.ite ?_ ?_)
      | (with_reducible refine LeO.bind ?_ (fun _ => ?_))
      | exact ih0 _ _ _ _ _ _ _ _ _
      | exact ih1 _ _ _ _ _ _ _ _ _
      | exact LeO.none _
      | refine LeO.ite ?_ ?_
      | refine LeO.bind ?_ (fun _ => ?_)
set_option maxHeartbeats 8000000 in
set_option maxRecDepth 100000 in
theorem registrarref04_Same.calls (k : Nat) (a0_0 : ByteArray) (a0_1 : ByteArray) (A0_2 : Option Addr) (c0_2 : Nat) (l0_2 : List ByteArray) (A0_3 : Option Addr) (c0_3 : Nat) (l0_3 : List (S35)) (a1_0 : ByteArray) (a1_1 : ByteArray) (A1_2 : Option Addr) (c1_2 : Nat) (l1_2 : List ByteArray) (A1_3 : Option Addr) (c1_3 : Nat) (l1_3 : List (S35)) (r : Bool) (w : World) (hr0_2 : Kd.C Kd.string w A0_2 l0_2.length l0_2) (hc0_2 : l0_2.length ≤ c0_2) (hr0_3 : Kd.C k35 w A0_3 l0_3.length l0_3) (hc0_3 : l0_3.length ≤ c0_3) (hr1_2 : Kd.C Kd.string w A1_2 l1_2.length l1_2) (hc1_2 : l1_2.length ≤ c1_2) (hr1_3 : Kd.C k35 w A1_3 l1_3.length l1_3) (hc1_3 : l1_3.length ≤ c1_3) (h : registrarref04_Same.f k a0_0 a0_1 l0_2 l0_3 a1_0 a1_1 l1_2 l1_3 = some r) :
    Calls Try.prog 13 #[.agg #[.string a0_0, .string a0_1, .slice A0_2 l0_2.length c0_2, .slice A0_3 l0_3.length c0_3], .agg #[.string a1_0, .string a1_1, .slice A1_2 l1_2.length c1_2, .slice A1_3 l1_3.length c1_3]] w fun e w' => e = .returned (.bool r) ∧ Below w.heap.size w w' := by
  have hu26 := Try.underlying26
  have hu35 := Try.underlying35
  have HR0_2 := Aside0.mk hr0_2
  have HC0_2 := Aside0.mk hc0_2
  clear hr0_2 hc0_2
  have HR0_3 := Aside0.mk hr0_3
  have HC0_3 := Aside0.mk hc0_3
  clear hr0_3 hc0_3
  have HR1_2 := Aside0.mk hr1_2
  have HC1_2 := Aside0.mk hc1_2
  clear hr1_2 hc1_2
  have HR1_3 := Aside0.mk hr1_3
  have HC1_3 := Aside0.mk hc1_3
  clear hr1_3 hc1_3
  have HB := Aside0.mk (Below.refl w.heap.size w)
  have H : ((registrarref04_TextsG.f l0_2 l1_2).bind fun t258 => (if a0_0.toList = a1_0.toList then (if a0_1.toList = a1_1.toList then (if t258 = true then (registrarref04_Same.j0 k ((l0_3.length : Int) != (l1_3.length : Int)) a0_0 a0_1 l0_2 l0_3 a1_0 a1_1 l1_2 l1_3) else (registrarref04_Same.j0 k true a0_0 a0_1 l0_2 l0_3 a1_0 a1_1 l1_2 l1_3)) else (registrarref04_Same.j0 k true a0_0 a0_1 l0_2 l0_3 a1_0 a1_1 l1_2 l1_3)) else (registrarref04_Same.j0 k true a0_0 a0_1 l0_2 l0_3 a1_0 a1_1 l1_2 l1_3))) = some r := h
  clear h
  replace H := Option.bind_eq_some_iff.mp H
  obtain ⟨t258, A30, H⟩ := H
  replace H : (if a0_0.toList = a1_0.toList then (if a0_1.toList = a1_1.toList then (if t258 = true then (registrarref04_Same.j0 k ((l0_3.length : Int) != (l1_3.length : Int)) a0_0 a0_1 l0_2 l0_3 a1_0 a1_1 l1_2 l1_3) else (registrarref04_Same.j0 k true a0_0 a0_1 l0_2 l0_3 a1_0 a1_1 l1_2 l1_3)) else (registrarref04_Same.j0 k true a0_0 a0_1 l0_2 l0_3 a1_0 a1_1 l1_2 l1_3)) else (registrarref04_Same.j0 k true a0_0 a0_1 l0_2 l0_3 a1_0 a1_1 l1_2 l1_3)) = some r := H
  have A3 := Aside0.mk A30
  clear A30
  have HC4 := Aside0.mk H
  clear H
  go_enter Try.func13, Try.ntmps13
  go_upto_region 2 with (first | ((with_reducible refine gate_dst (N := 2) rfl ?_); (try (refine gate_guard (by rfl) ?_; dsimp only)); refine box_event ?hg (N := 2) ?hd (cs := #[.string a0_0, .string a0_1, .slice A0_2 l0_2.length c0_2, .slice A0_3 l0_3.length c0_3]) (t := 26) ?hr ?_; (case hd => rfl); (case hg => rfl); (case hr => first | (go_simp; done) | (go_simp; rfl)); intro gb256 hg w5 hbox hb; have n0_ := Aside0.mk (below_step (by repeat (first | (with_reducible first | exact HB.out | apply below_alloc | apply pw_below_drewN | apply below_drew1) | exact HB.out)) hb); have n1_ := Aside0.mk (hbox); have n2_ := Aside0.mk ((by rw [hg]; exact (below_size (by repeat (first | (with_reducible first | exact HB.out | apply below_alloc | apply pw_below_drewN | apply below_drew1) | exact HB.out))) : w.heap.size ≤ gb256)); have n3_ := Aside0.mk ((by rw [hg]; exact (below_size (by repeat (first | (with_reducible first | exact HB.out | apply below_alloc | apply pw_below_drewN | apply below_drew1) | exact HB.out))) : w.heap.size ≤ gb256)); clear HB; have HB := n0_; have BK256 := n1_; have GW256 := n2_; have GE256 := n3_; clear n0_ n1_ n2_ n3_; clear hb hbox hg) | ((with_reducible refine gate_dst (N := 3) rfl ?_); (try (refine gate_guard (by rfl) ?_; dsimp only)); refine box_event ?hg (N := 3) ?hd (cs := #[.string a1_0, .string a1_1, .slice A1_2 l1_2.length c1_2, .slice A1_3 l1_3.length c1_3]) (t := 26) ?hr ?_; (case hd => rfl); (case hg => rfl); (case hr => first | (go_simp; done) | (go_simp; rfl)); intro gb257 hg w6 hbox hb; have n0_ := Aside0.mk (blk_below (g := gb256) (o := .cells #[.string a0_0, .string a0_1, .slice A0_2 l0_2.length c0_2, .slice A0_3 l0_3.length c0_3] 26 (0, 0)) (by (with_reducible repeat (first | refine blk_drewN ?_ _ | refine blk_drew ?_ | refine blk_alloc ?_ _)); exact BK256.out) hb); have n1_ := Aside0.mk (below_step (by repeat (first | (with_reducible first | exact HB.out | apply below_alloc | apply pw_below_drewN | apply below_drew1 | refine below_set ?_ GE256.out) | exact HB.out)) hb); have n2_ := Aside0.mk (hbox); have n3_ := Aside0.mk ((by rw [hg]; exact (below_size (by repeat (first | (with_reducible first | exact HB.out | apply below_alloc | apply pw_below_drewN | apply below_drew1 | refine below_set ?_ GE256.out) | exact HB.out))) : w.heap.size ≤ gb257)); have n4_ := Aside0.mk ((by rw [hg]; exact (below_size (by repeat (first | (with_reducible first | exact HB.out | apply below_alloc | apply pw_below_drewN | apply below_drew1 | refine below_set ?_ GE256.out) | exact HB.out))) : w.heap.size ≤ gb257)); have n5_ := Aside0.mk ((by rw [hg]; exact Nat.ne_of_lt (blk_lt (g := gb256) (o := .cells #[.string a0_0, .string a0_1, .slice A0_2 l0_2.length c0_2, .slice A0_3 l0_3.length c0_3] 26 (0, 0)) (by (with_reducible repeat (first | refine blk_drewN ?_ _ | refine blk_drew ?_ | refine blk_alloc ?_ _)); exact BK256.out)) : gb256 ≠ gb257)); have n6_ := Aside0.mk ((by rw [hg]; exact Nat.ne_of_gt (blk_lt (g := gb256) (o := .cells #[.string a0_0, .string a0_1, .slice A0_2 l0_2.length c0_2, .slice A0_3 l0_3.length c0_3] 26 (0, 0)) (by (with_reducible repeat (first | refine blk_drewN ?_ _ | refine blk_drew ?_ | refine blk_alloc ?_ _)); exact BK256.out)) : gb257 ≠ gb256)); clear BK256; clear HB; have BK256 := n0_; have HB := n1_; have BK257 := n2_; have GW257 := n3_; have GE257 := n4_; have NB256_257 := n5_; have NB257_256 := n6_; clear n0_ n1_ n2_ n3_ n4_ n5_ n6_; clear hb hbox hg; have hnb7 := NB256_257.out; have hnc7 := NB257_256.out; have hcz8_0 : w6.cell? ⟨gb256, 0, none⟩ = some (.string a0_0) := (blk_cell BK256.out 0).trans rfl; have hcz8_1 : w6.cell? ⟨gb256, 1, none⟩ = some (.string a0_1) := (blk_cell BK256.out 1).trans rfl; have hcz8_2 : w6.cell? ⟨gb256, 2, none⟩ = some (.slice A0_2 l0_2.length c0_2) := (blk_cell BK256.out 2).trans rfl; have hcz8_3 : w6.cell? ⟨gb256, 3, none⟩ = some (.slice A0_3 l0_3.length c0_3) := (blk_cell BK256.out 3).trans rfl; have hfz8_0 := blk_frozen BK256.out 0; have hfz8_1 := blk_frozen BK256.out 1; have hfz8_2 := blk_frozen BK256.out 2; have hfz8_3 := blk_frozen BK256.out 3; have hcz9_0 : w6.cell? ⟨gb257, 0, none⟩ = some (.string a1_0) := (blk_cell BK257.out 0).trans rfl; have hcz9_1 : w6.cell? ⟨gb257, 1, none⟩ = some (.string a1_1) := (blk_cell BK257.out 1).trans rfl; have hcz9_2 : w6.cell? ⟨gb257, 2, none⟩ = some (.slice A1_2 l1_2.length c1_2) := (blk_cell BK257.out 2).trans rfl; have hcz9_3 : w6.cell? ⟨gb257, 3, none⟩ = some (.slice A1_3 l1_3.length c1_3) := (blk_cell BK257.out 3).trans rfl; have hfz9_0 := blk_frozen BK257.out 0; have hfz9_1 := blk_frozen BK257.out 1; have hfz9_2 := blk_frozen BK257.out 2; have hfz9_3 := blk_frozen BK257.out 3) | (go_at_call 27; (with_reducible refine (registrarref04_TextsG.calls _ _ l0_2 _ _ l1_2 t258 _ ?side1 ?side2 ?side3 ?side4 A3.out).mono ?_); (case side1 => repeat (first | exact (Kd.C_below HR0_2.out HB.out) | (with_reducible refine Kd.C_alloc ?_ _) | (with_reducible refine Kd.C_drewN ?_ _) | (with_reducible refine Kd.C_drew ?_))); (case side2 => exact HC0_2.out); (case side3 => repeat (first | exact (Kd.C_below HR1_2.out HB.out) | (with_reducible refine Kd.C_alloc ?_ _) | (with_reducible refine Kd.C_drewN ?_ _) | (with_reducible refine Kd.C_drew ?_))); (case side4 => exact HC1_2.out); rintro e w' ⟨rfl, ⟨nd, rfl⟩⟩; (try first | exact ⟨rfl, _, World.drewN_drewN _ _ _⟩ | exact ⟨rfl, _, Eq.trans (World.drewN_drewN _ _ _) (congrArg (World.drewN _) (Nat.add_assoc _ _ _))⟩)))
  repeat (go_quiet (first | ((with_reducible refine gate_dst (N := 2) rfl ?_); (try (refine gate_guard (by rfl) ?_; dsimp only)); refine box_event ?hg (N := 2) ?hd (cs := #[.string a0_0, .string a0_1, .slice A0_2 l0_2.length c0_2, .slice A0_3 l0_3.length c0_3]) (t := 26) ?hr ?_; (case hd => rfl); (case hg => rfl); (case hr => first | (go_simp; done) | (go_simp; rfl)); intro gb256 hg w5 hbox hb; have n0_ := Aside0.mk (below_step (by repeat (first | (with_reducible first | exact HB.out | apply below_alloc | apply pw_below_drewN | apply below_drew1) | exact HB.out)) hb); have n1_ := Aside0.mk (hbox); have n2_ := Aside0.mk ((by rw [hg]; exact (below_size (by repeat (first | (with_reducible first | exact HB.out | apply below_alloc | apply pw_below_drewN | apply below_drew1) | exact HB.out))) : w.heap.size ≤ gb256)); have n3_ := Aside0.mk ((by rw [hg]; exact (below_size (by repeat (first | (with_reducible first | exact HB.out | apply below_alloc | apply pw_below_drewN | apply below_drew1) | exact HB.out))) : w.heap.size ≤ gb256)); clear HB; have HB := n0_; have BK256 := n1_; have GW256 := n2_; have GE256 := n3_; clear n0_ n1_ n2_ n3_; clear hb hbox hg) | ((with_reducible refine gate_dst (N := 3) rfl ?_); (try (refine gate_guard (by rfl) ?_; dsimp only)); refine box_event ?hg (N := 3) ?hd (cs := #[.string a1_0, .string a1_1, .slice A1_2 l1_2.length c1_2, .slice A1_3 l1_3.length c1_3]) (t := 26) ?hr ?_; (case hd => rfl); (case hg => rfl); (case hr => first | (go_simp; done) | (go_simp; rfl)); intro gb257 hg w6 hbox hb; have n0_ := Aside0.mk (blk_below (g := gb256) (o := .cells #[.string a0_0, .string a0_1, .slice A0_2 l0_2.length c0_2, .slice A0_3 l0_3.length c0_3] 26 (0, 0)) (by (with_reducible repeat (first | refine blk_drewN ?_ _ | refine blk_drew ?_ | refine blk_alloc ?_ _)); exact BK256.out) hb); have n1_ := Aside0.mk (below_step (by repeat (first | (with_reducible first | exact HB.out | apply below_alloc | apply pw_below_drewN | apply below_drew1 | refine below_set ?_ GE256.out) | exact HB.out)) hb); have n2_ := Aside0.mk (hbox); have n3_ := Aside0.mk ((by rw [hg]; exact (below_size (by repeat (first | (with_reducible first | exact HB.out | apply below_alloc | apply pw_below_drewN | apply below_drew1 | refine below_set ?_ GE256.out) | exact HB.out))) : w.heap.size ≤ gb257)); have n4_ := Aside0.mk ((by rw [hg]; exact (below_size (by repeat (first | (with_reducible first | exact HB.out | apply below_alloc | apply pw_below_drewN | apply below_drew1 | refine below_set ?_ GE256.out) | exact HB.out))) : w.heap.size ≤ gb257)); have n5_ := Aside0.mk ((by rw [hg]; exact Nat.ne_of_lt (blk_lt (g := gb256) (o := .cells #[.string a0_0, .string a0_1, .slice A0_2 l0_2.length c0_2, .slice A0_3 l0_3.length c0_3] 26 (0, 0)) (by (with_reducible repeat (first | refine blk_drewN ?_ _ | refine blk_drew ?_ | refine blk_alloc ?_ _)); exact BK256.out)) : gb256 ≠ gb257)); have n6_ := Aside0.mk ((by rw [hg]; exact Nat.ne_of_gt (blk_lt (g := gb256) (o := .cells #[.string a0_0, .string a0_1, .slice A0_2 l0_2.length c0_2, .slice A0_3 l0_3.length c0_3] 26 (0, 0)) (by (with_reducible repeat (first | refine blk_drewN ?_ _ | refine blk_drew ?_ | refine blk_alloc ?_ _)); exact BK256.out)) : gb257 ≠ gb256)); clear BK256; clear HB; have BK256 := n0_; have HB := n1_; have BK257 := n2_; have GW257 := n3_; have GE257 := n4_; have NB256_257 := n5_; have NB257_256 := n6_; clear n0_ n1_ n2_ n3_ n4_ n5_ n6_; clear hb hbox hg; have hnb7 := NB256_257.out; have hnc7 := NB257_256.out; have hcz8_0 : w6.cell? ⟨gb256, 0, none⟩ = some (.string a0_0) := (blk_cell BK256.out 0).trans rfl; have hcz8_1 : w6.cell? ⟨gb256, 1, none⟩ = some (.string a0_1) := (blk_cell BK256.out 1).trans rfl; have hcz8_2 : w6.cell? ⟨gb256, 2, none⟩ = some (.slice A0_2 l0_2.length c0_2) := (blk_cell BK256.out 2).trans rfl; have hcz8_3 : w6.cell? ⟨gb256, 3, none⟩ = some (.slice A0_3 l0_3.length c0_3) := (blk_cell BK256.out 3).trans rfl; have hfz8_0 := blk_frozen BK256.out 0; have hfz8_1 := blk_frozen BK256.out 1; have hfz8_2 := blk_frozen BK256.out 2; have hfz8_3 := blk_frozen BK256.out 3; have hcz9_0 : w6.cell? ⟨gb257, 0, none⟩ = some (.string a1_0) := (blk_cell BK257.out 0).trans rfl; have hcz9_1 : w6.cell? ⟨gb257, 1, none⟩ = some (.string a1_1) := (blk_cell BK257.out 1).trans rfl; have hcz9_2 : w6.cell? ⟨gb257, 2, none⟩ = some (.slice A1_2 l1_2.length c1_2) := (blk_cell BK257.out 2).trans rfl; have hcz9_3 : w6.cell? ⟨gb257, 3, none⟩ = some (.slice A1_3 l1_3.length c1_3) := (blk_cell BK257.out 3).trans rfl; have hfz9_0 := blk_frozen BK257.out 0; have hfz9_1 := blk_frozen BK257.out 1; have hfz9_2 := blk_frozen BK257.out 2; have hfz9_3 := blk_frozen BK257.out 3) | (go_at_call 27; (with_reducible refine (registrarref04_TextsG.calls _ _ l0_2 _ _ l1_2 t258 _ ?side1 ?side2 ?side3 ?side4 A3.out).mono ?_); (case side1 => repeat (first | exact (Kd.C_below HR0_2.out HB.out) | (with_reducible refine Kd.C_alloc ?_ _) | (with_reducible refine Kd.C_drewN ?_ _) | (with_reducible refine Kd.C_drew ?_))); (case side2 => exact HC0_2.out); (case side3 => repeat (first | exact (Kd.C_below HR1_2.out HB.out) | (with_reducible refine Kd.C_alloc ?_ _) | (with_reducible refine Kd.C_drewN ?_ _) | (with_reducible refine Kd.C_drew ?_))); (case side4 => exact HC1_2.out); rintro e w' ⟨rfl, ⟨nd, rfl⟩⟩; (try first | exact ⟨rfl, _, World.drewN_drewN _ _ _⟩ | exact ⟨rfl, _, Eq.trans (World.drewN_drewN _ _ _) (congrArg (World.drewN _) (Nat.add_assoc _ _ _))⟩))); go_upto_region 2 with (first | ((with_reducible refine gate_dst (N := 2) rfl ?_); (try (refine gate_guard (by rfl) ?_; dsimp only)); refine box_event ?hg (N := 2) ?hd (cs := #[.string a0_0, .string a0_1, .slice A0_2 l0_2.length c0_2, .slice A0_3 l0_3.length c0_3]) (t := 26) ?hr ?_; (case hd => rfl); (case hg => rfl); (case hr => first | (go_simp; done) | (go_simp; rfl)); intro gb256 hg w5 hbox hb; have n0_ := Aside0.mk (below_step (by repeat (first | (with_reducible first | exact HB.out | apply below_alloc | apply pw_below_drewN | apply below_drew1) | exact HB.out)) hb); have n1_ := Aside0.mk (hbox); have n2_ := Aside0.mk ((by rw [hg]; exact (below_size (by repeat (first | (with_reducible first | exact HB.out | apply below_alloc | apply pw_below_drewN | apply below_drew1) | exact HB.out))) : w.heap.size ≤ gb256)); have n3_ := Aside0.mk ((by rw [hg]; exact (below_size (by repeat (first | (with_reducible first | exact HB.out | apply below_alloc | apply pw_below_drewN | apply below_drew1) | exact HB.out))) : w.heap.size ≤ gb256)); clear HB; have HB := n0_; have BK256 := n1_; have GW256 := n2_; have GE256 := n3_; clear n0_ n1_ n2_ n3_; clear hb hbox hg) | ((with_reducible refine gate_dst (N := 3) rfl ?_); (try (refine gate_guard (by rfl) ?_; dsimp only)); refine box_event ?hg (N := 3) ?hd (cs := #[.string a1_0, .string a1_1, .slice A1_2 l1_2.length c1_2, .slice A1_3 l1_3.length c1_3]) (t := 26) ?hr ?_; (case hd => rfl); (case hg => rfl); (case hr => first | (go_simp; done) | (go_simp; rfl)); intro gb257 hg w6 hbox hb; have n0_ := Aside0.mk (blk_below (g := gb256) (o := .cells #[.string a0_0, .string a0_1, .slice A0_2 l0_2.length c0_2, .slice A0_3 l0_3.length c0_3] 26 (0, 0)) (by (with_reducible repeat (first | refine blk_drewN ?_ _ | refine blk_drew ?_ | refine blk_alloc ?_ _)); exact BK256.out) hb); have n1_ := Aside0.mk (below_step (by repeat (first | (with_reducible first | exact HB.out | apply below_alloc | apply pw_below_drewN | apply below_drew1 | refine below_set ?_ GE256.out) | exact HB.out)) hb); have n2_ := Aside0.mk (hbox); have n3_ := Aside0.mk ((by rw [hg]; exact (below_size (by repeat (first | (with_reducible first | exact HB.out | apply below_alloc | apply pw_below_drewN | apply below_drew1 | refine below_set ?_ GE256.out) | exact HB.out))) : w.heap.size ≤ gb257)); have n4_ := Aside0.mk ((by rw [hg]; exact (below_size (by repeat (first | (with_reducible first | exact HB.out | apply below_alloc | apply pw_below_drewN | apply below_drew1 | refine below_set ?_ GE256.out) | exact HB.out))) : w.heap.size ≤ gb257)); have n5_ := Aside0.mk ((by rw [hg]; exact Nat.ne_of_lt (blk_lt (g := gb256) (o := .cells #[.string a0_0, .string a0_1, .slice A0_2 l0_2.length c0_2, .slice A0_3 l0_3.length c0_3] 26 (0, 0)) (by (with_reducible repeat (first | refine blk_drewN ?_ _ | refine blk_drew ?_ | refine blk_alloc ?_ _)); exact BK256.out)) : gb256 ≠ gb257)); have n6_ := Aside0.mk ((by rw [hg]; exact Nat.ne_of_gt (blk_lt (g := gb256) (o := .cells #[.string a0_0, .string a0_1, .slice A0_2 l0_2.length c0_2, .slice A0_3 l0_3.length c0_3] 26 (0, 0)) (by (with_reducible repeat (first | refine blk_drewN ?_ _ | refine blk_drew ?_ | refine blk_alloc ?_ _)); exact BK256.out)) : gb257 ≠ gb256)); clear BK256; clear HB; have BK256 := n0_; have HB := n1_; have BK257 := n2_; have GW257 := n3_; have GE257 := n4_; have NB256_257 := n5_; have NB257_256 := n6_; clear n0_ n1_ n2_ n3_ n4_ n5_ n6_; clear hb hbox hg; have hnb7 := NB256_257.out; have hnc7 := NB257_256.out; have hcz8_0 : w6.cell? ⟨gb256, 0, none⟩ = some (.string a0_0) := (blk_cell BK256.out 0).trans rfl; have hcz8_1 : w6.cell? ⟨gb256, 1, none⟩ = some (.string a0_1) := (blk_cell BK256.out 1).trans rfl; have hcz8_2 : w6.cell? ⟨gb256, 2, none⟩ = some (.slice A0_2 l0_2.length c0_2) := (blk_cell BK256.out 2).trans rfl; have hcz8_3 : w6.cell? ⟨gb256, 3, none⟩ = some (.slice A0_3 l0_3.length c0_3) := (blk_cell BK256.out 3).trans rfl; have hfz8_0 := blk_frozen BK256.out 0; have hfz8_1 := blk_frozen BK256.out 1; have hfz8_2 := blk_frozen BK256.out 2; have hfz8_3 := blk_frozen BK256.out 3; have hcz9_0 : w6.cell? ⟨gb257, 0, none⟩ = some (.string a1_0) := (blk_cell BK257.out 0).trans rfl; have hcz9_1 : w6.cell? ⟨gb257, 1, none⟩ = some (.string a1_1) := (blk_cell BK257.out 1).trans rfl; have hcz9_2 : w6.cell? ⟨gb257, 2, none⟩ = some (.slice A1_2 l1_2.length c1_2) := (blk_cell BK257.out 2).trans rfl; have hcz9_3 : w6.cell? ⟨gb257, 3, none⟩ = some (.slice A1_3 l1_3.length c1_3) := (blk_cell BK257.out 3).trans rfl; have hfz9_0 := blk_frozen BK257.out 0; have hfz9_1 := blk_frozen BK257.out 1; have hfz9_2 := blk_frozen BK257.out 2; have hfz9_3 := blk_frozen BK257.out 3) | (go_at_call 27; (with_reducible refine (registrarref04_TextsG.calls _ _ l0_2 _ _ l1_2 t258 _ ?side1 ?side2 ?side3 ?side4 A3.out).mono ?_); (case side1 => repeat (first | exact (Kd.C_below HR0_2.out HB.out) | (with_reducible refine Kd.C_alloc ?_ _) | (with_reducible refine Kd.C_drewN ?_ _) | (with_reducible refine Kd.C_drew ?_))); (case side2 => exact HC0_2.out); (case side3 => repeat (first | exact (Kd.C_below HR1_2.out HB.out) | (with_reducible refine Kd.C_alloc ?_ _) | (with_reducible refine Kd.C_drewN ?_ _) | (with_reducible refine Kd.C_drew ?_))); (case side4 => exact HC1_2.out); rintro e w' ⟨rfl, ⟨nd, rfl⟩⟩; (try first | exact ⟨rfl, _, World.drewN_drewN _ _ _⟩ | exact ⟨rfl, _, Eq.trans (World.drewN_drewN _ _ _) (congrArg (World.drewN _) (Nat.add_assoc _ _ _))⟩))))
  (try simp only [Act.put, List.setIfInBounds_toArray, List.set_cons_zero, List.set_cons_succ])
  go_cut [36] (fun v36 wc => ∃ (kq : Nat) (x36_3 : Bool), v36 = .bool x36_3 ∧ Aside0 (registrarref04_Same.j0 kq x36_3 a0_0 a0_1 l0_2 l0_3 a1_0 a1_1 l1_2 l1_3 = some r) ∧ Aside0 (kq ≤ k) ∧ Aside0 (wc.heap[gb256]? = some (.cells #[.string a0_0, .string a0_1, (.slice A0_2 l0_2.length c0_2), (.slice A0_3 l0_3.length c0_3)] 26 (0, 0))) ∧ Aside0 (wc.heap[gb257]? = some (.cells #[.string a1_0, .string a1_1, (.slice A1_2 l1_2.length c1_2), (.slice A1_3 l1_3.length c1_3)] 26 (0, 0))) ∧ Aside0 (Below w.heap.size w wc))
  case first =>
    have H := HC4.out
    clear HC4
    by_cases c10 : a0_0.toList = a1_0.toList
    · rw [if_pos c10] at H
      have c10b0 : (a0_0.toList == a1_0.toList) = true := beq_iff_eq.mpr c10
      have c10b1 : (a0_0.toList != a1_0.toList) = false := bne_eq_false_iff_eq.mpr c10
      clear c10
      (first | rw [c10b0] | (simp only [i64_w, i32_w]; rw [c10b0]) | skip)
      by_cases c11 : a0_1.toList = a1_1.toList
      · rw [if_pos c11] at H
        have c11b0 : (a0_1.toList == a1_1.toList) = true := beq_iff_eq.mpr c11
        have c11b1 : (a0_1.toList != a1_1.toList) = false := bne_eq_false_iff_eq.mpr c11
        clear c11
        by_cases c12 : t258 = true
        · subst c12
          have H1 : (registrarref04_Same.j0 k ((l0_3.length : Int) != (l1_3.length : Int)) a0_0 a0_1 l0_2 l0_3 a1_0 a1_1 l1_2 l1_3) = some r := by rw [if_pos rfl] at H; exact H
          clear H
          have H := H1
          clear H1
          have H' := Aside0.mk H
          clear H
          have hnb13 := NB256_257.out
          have hnc13 := NB257_256.out
          have hcz14_0 : w6.cell? ⟨gb256, 0, none⟩ = some (.string a0_0) := (blk_cell BK256.out 0).trans rfl
          have hcz14_1 : w6.cell? ⟨gb256, 1, none⟩ = some (.string a0_1) := (blk_cell BK256.out 1).trans rfl
          have hcz14_2 : w6.cell? ⟨gb256, 2, none⟩ = some (.slice A0_2 l0_2.length c0_2) := (blk_cell BK256.out 2).trans rfl
          have hcz14_3 : w6.cell? ⟨gb256, 3, none⟩ = some (.slice A0_3 l0_3.length c0_3) := (blk_cell BK256.out 3).trans rfl
          have hfz14_0 := blk_frozen BK256.out 0
          have hfz14_1 := blk_frozen BK256.out 1
          have hfz14_2 := blk_frozen BK256.out 2
          have hfz14_3 := blk_frozen BK256.out 3
          have hcz15_0 : w6.cell? ⟨gb257, 0, none⟩ = some (.string a1_0) := (blk_cell BK257.out 0).trans rfl
          have hcz15_1 : w6.cell? ⟨gb257, 1, none⟩ = some (.string a1_1) := (blk_cell BK257.out 1).trans rfl
          have hcz15_2 : w6.cell? ⟨gb257, 2, none⟩ = some (.slice A1_2 l1_2.length c1_2) := (blk_cell BK257.out 2).trans rfl
          have hcz15_3 : w6.cell? ⟨gb257, 3, none⟩ = some (.slice A1_3 l1_3.length c1_3) := (blk_cell BK257.out 3).trans rfl
          have hfz15_0 := blk_frozen BK257.out 0
          have hfz15_1 := blk_frozen BK257.out 1
          have hfz15_2 := blk_frozen BK257.out 2
          have hfz15_3 := blk_frozen BK257.out 3
          go_wp2
          repeat (go_quiet (fail); try go_wp2)
          go_meet
          case rel => exact ⟨_, (((l0_3.length : Int) != (l1_3.length : Int))), (by first | rfl | (simp; done) | (simp [*]; done)), H', ⟨by first | omega | exact Nat.le_refl _⟩, ⟨by (with_reducible repeat (first | refine blk_drewN ?_ _ | refine blk_drew ?_ | refine blk_alloc ?_ _)); exact BK256.out⟩, ⟨by (with_reducible repeat (first | refine blk_drewN ?_ _ | refine blk_drew ?_ | refine blk_alloc ?_ _)); exact BK257.out⟩, ⟨by repeat (first | (with_reducible first | exact HB.out | apply below_alloc | apply pw_below_drewN | apply below_drew1 | refine below_set ?_ GE256.out | refine below_set ?_ GE257.out) | exact HB.out)⟩⟩
        · replace c12 := Bool.eq_false_iff.mpr c12
          subst c12
          have H1 : (registrarref04_Same.j0 k true a0_0 a0_1 l0_2 l0_3 a1_0 a1_1 l1_2 l1_3) = some r := by rw [if_neg (show ¬ (false = true) by decide)] at H; exact H
          clear H
          have H := H1
          clear H1
          have H' := Aside0.mk H
          clear H
          have hnb16 := NB256_257.out
          have hnc16 := NB257_256.out
          have hcz17_0 : w6.cell? ⟨gb256, 0, none⟩ = some (.string a0_0) := (blk_cell BK256.out 0).trans rfl
          have hcz17_1 : w6.cell? ⟨gb256, 1, none⟩ = some (.string a0_1) := (blk_cell BK256.out 1).trans rfl
          have hcz17_2 : w6.cell? ⟨gb256, 2, none⟩ = some (.slice A0_2 l0_2.length c0_2) := (blk_cell BK256.out 2).trans rfl
          have hcz17_3 : w6.cell? ⟨gb256, 3, none⟩ = some (.slice A0_3 l0_3.length c0_3) := (blk_cell BK256.out 3).trans rfl
          have hfz17_0 := blk_frozen BK256.out 0
          have hfz17_1 := blk_frozen BK256.out 1
          have hfz17_2 := blk_frozen BK256.out 2
          have hfz17_3 := blk_frozen BK256.out 3
          have hcz18_0 : w6.cell? ⟨gb257, 0, none⟩ = some (.string a1_0) := (blk_cell BK257.out 0).trans rfl
          have hcz18_1 : w6.cell? ⟨gb257, 1, none⟩ = some (.string a1_1) := (blk_cell BK257.out 1).trans rfl
          have hcz18_2 : w6.cell? ⟨gb257, 2, none⟩ = some (.slice A1_2 l1_2.length c1_2) := (blk_cell BK257.out 2).trans rfl
          have hcz18_3 : w6.cell? ⟨gb257, 3, none⟩ = some (.slice A1_3 l1_3.length c1_3) := (blk_cell BK257.out 3).trans rfl
          have hfz18_0 := blk_frozen BK257.out 0
          have hfz18_1 := blk_frozen BK257.out 1
          have hfz18_2 := blk_frozen BK257.out 2
          have hfz18_3 := blk_frozen BK257.out 3
          go_wp2
          repeat (go_quiet (fail); try go_wp2)
          go_meet
          case rel => exact ⟨_, (true), (by first | rfl | (simp; done) | (simp [*]; done)), H', ⟨by first | omega | exact Nat.le_refl _⟩, ⟨by (with_reducible repeat (first | refine blk_drewN ?_ _ | refine blk_drew ?_ | refine blk_alloc ?_ _)); exact BK256.out⟩, ⟨by (with_reducible repeat (first | refine blk_drewN ?_ _ | refine blk_drew ?_ | refine blk_alloc ?_ _)); exact BK257.out⟩, ⟨by repeat (first | (with_reducible first | exact HB.out | apply below_alloc | apply pw_below_drewN | apply below_drew1 | refine below_set ?_ GE256.out | refine below_set ?_ GE257.out) | exact HB.out)⟩⟩
      · rw [if_neg c11] at H
        have c11b0 : (a0_1.toList == a1_1.toList) = false := beq_eq_false_iff_ne.mpr c11
        have c11b1 : (a0_1.toList != a1_1.toList) = true := bne_iff_ne.mpr c11
        have H' := Aside0.mk H
        clear H
        have hnb19 := NB256_257.out
        have hnc19 := NB257_256.out
        have hcz20_0 : w6.cell? ⟨gb256, 0, none⟩ = some (.string a0_0) := (blk_cell BK256.out 0).trans rfl
        have hcz20_1 : w6.cell? ⟨gb256, 1, none⟩ = some (.string a0_1) := (blk_cell BK256.out 1).trans rfl
        have hcz20_2 : w6.cell? ⟨gb256, 2, none⟩ = some (.slice A0_2 l0_2.length c0_2) := (blk_cell BK256.out 2).trans rfl
        have hcz20_3 : w6.cell? ⟨gb256, 3, none⟩ = some (.slice A0_3 l0_3.length c0_3) := (blk_cell BK256.out 3).trans rfl
        have hfz20_0 := blk_frozen BK256.out 0
        have hfz20_1 := blk_frozen BK256.out 1
        have hfz20_2 := blk_frozen BK256.out 2
        have hfz20_3 := blk_frozen BK256.out 3
        have hcz21_0 : w6.cell? ⟨gb257, 0, none⟩ = some (.string a1_0) := (blk_cell BK257.out 0).trans rfl
        have hcz21_1 : w6.cell? ⟨gb257, 1, none⟩ = some (.string a1_1) := (blk_cell BK257.out 1).trans rfl
        have hcz21_2 : w6.cell? ⟨gb257, 2, none⟩ = some (.slice A1_2 l1_2.length c1_2) := (blk_cell BK257.out 2).trans rfl
        have hcz21_3 : w6.cell? ⟨gb257, 3, none⟩ = some (.slice A1_3 l1_3.length c1_3) := (blk_cell BK257.out 3).trans rfl
        have hfz21_0 := blk_frozen BK257.out 0
        have hfz21_1 := blk_frozen BK257.out 1
        have hfz21_2 := blk_frozen BK257.out 2
        have hfz21_3 := blk_frozen BK257.out 3
        go_wp2
        repeat (go_quiet (fail); try go_wp2)
        go_meet
        case rel => exact ⟨_, (true), (by first | rfl | (simp; done) | (simp [*]; done)), H', ⟨by first | omega | exact Nat.le_refl _⟩, ⟨by (with_reducible repeat (first | refine blk_drewN ?_ _ | refine blk_drew ?_ | refine blk_alloc ?_ _)); exact BK256.out⟩, ⟨by (with_reducible repeat (first | refine blk_drewN ?_ _ | refine blk_drew ?_ | refine blk_alloc ?_ _)); exact BK257.out⟩, ⟨by repeat (first | (with_reducible first | exact HB.out | apply below_alloc | apply pw_below_drewN | apply below_drew1 | refine below_set ?_ GE256.out | refine below_set ?_ GE257.out) | exact HB.out)⟩⟩
    · rw [if_neg c10] at H
      have c10b0 : (a0_0.toList == a1_0.toList) = false := beq_eq_false_iff_ne.mpr c10
      have c10b1 : (a0_0.toList != a1_0.toList) = true := bne_iff_ne.mpr c10
      (first | rw [c10b0] | (simp only [i64_w, i32_w]; rw [c10b0]) | skip)
      have H' := Aside0.mk H
      clear H
      have hnb22 := NB256_257.out
      have hnc22 := NB257_256.out
      have hcz23_0 : w6.cell? ⟨gb256, 0, none⟩ = some (.string a0_0) := (blk_cell BK256.out 0).trans rfl
      have hcz23_1 : w6.cell? ⟨gb256, 1, none⟩ = some (.string a0_1) := (blk_cell BK256.out 1).trans rfl
      have hcz23_2 : w6.cell? ⟨gb256, 2, none⟩ = some (.slice A0_2 l0_2.length c0_2) := (blk_cell BK256.out 2).trans rfl
      have hcz23_3 : w6.cell? ⟨gb256, 3, none⟩ = some (.slice A0_3 l0_3.length c0_3) := (blk_cell BK256.out 3).trans rfl
      have hfz23_0 := blk_frozen BK256.out 0
      have hfz23_1 := blk_frozen BK256.out 1
      have hfz23_2 := blk_frozen BK256.out 2
      have hfz23_3 := blk_frozen BK256.out 3
      have hcz24_0 : w6.cell? ⟨gb257, 0, none⟩ = some (.string a1_0) := (blk_cell BK257.out 0).trans rfl
      have hcz24_1 : w6.cell? ⟨gb257, 1, none⟩ = some (.string a1_1) := (blk_cell BK257.out 1).trans rfl
      have hcz24_2 : w6.cell? ⟨gb257, 2, none⟩ = some (.slice A1_2 l1_2.length c1_2) := (blk_cell BK257.out 2).trans rfl
      have hcz24_3 : w6.cell? ⟨gb257, 3, none⟩ = some (.slice A1_3 l1_3.length c1_3) := (blk_cell BK257.out 3).trans rfl
      have hfz24_0 := blk_frozen BK257.out 0
      have hfz24_1 := blk_frozen BK257.out 1
      have hfz24_2 := blk_frozen BK257.out 2
      have hfz24_3 := blk_frozen BK257.out 3
      go_wp2
      repeat (go_quiet (fail); try go_wp2)
      go_meet
      case rel => exact ⟨_, (true), (by first | rfl | (simp; done) | (simp [*]; done)), H', ⟨by first | omega | exact Nat.le_refl _⟩, ⟨by (with_reducible repeat (first | refine blk_drewN ?_ _ | refine blk_drew ?_ | refine blk_alloc ?_ _)); exact BK256.out⟩, ⟨by (with_reducible repeat (first | refine blk_drewN ?_ _ | refine blk_drew ?_ | refine blk_alloc ?_ _)); exact BK257.out⟩, ⟨by repeat (first | (with_reducible first | exact HB.out | apply below_alloc | apply pw_below_drewN | apply below_drew1 | refine below_set ?_ GE256.out | refine below_set ?_ GE257.out) | exact HB.out)⟩⟩
  case rest =>
    clear HC4
    try clear c1
    try clear c2
    try clear p2
    try clear c7
    try clear c10
    try clear c10b0
    try clear c10b1
    try clear c11
    try clear c11b0
    try clear c11b1
    try clear c12
    try clear c13
    try clear c16
    try clear c19
    try clear c22
    try clear hcz14_0
    try clear hcz14_1
    try clear hcz14_2
    try clear hcz14_3
    try clear hcz15_0
    try clear hcz15_1
    try clear hcz15_2
    try clear hcz15_3
    try clear hcz17_0
    try clear hcz17_1
    try clear hcz17_2
    try clear hcz17_3
    try clear hcz18_0
    try clear hcz18_1
    try clear hcz18_2
    try clear hcz18_3
    try clear hcz20_0
    try clear hcz20_1
    try clear hcz20_2
    try clear hcz20_3
    try clear hcz21_0
    try clear hcz21_1
    try clear hcz21_2
    try clear hcz21_3
    try clear hcz23_0
    try clear hcz23_1
    try clear hcz23_2
    try clear hcz23_3
    try clear hcz24_0
    try clear hcz24_1
    try clear hcz24_2
    try clear hcz24_3
    try clear hcz8_0
    try clear hcz8_1
    try clear hcz8_2
    try clear hcz8_3
    try clear hcz9_0
    try clear hcz9_1
    try clear hcz9_2
    try clear hcz9_3
    try clear hfz14_0
    try clear hfz14_1
    try clear hfz14_2
    try clear hfz14_3
    try clear hfz15_0
    try clear hfz15_1
    try clear hfz15_2
    try clear hfz15_3
    try clear hfz17_0
    try clear hfz17_1
    try clear hfz17_2
    try clear hfz17_3
    try clear hfz18_0
    try clear hfz18_1
    try clear hfz18_2
    try clear hfz18_3
    try clear hfz20_0
    try clear hfz20_1
    try clear hfz20_2
    try clear hfz20_3
    try clear hfz21_0
    try clear hfz21_1
    try clear hfz21_2
    try clear hfz21_3
    try clear hfz23_0
    try clear hfz23_1
    try clear hfz23_2
    try clear hfz23_3
    try clear hfz24_0
    try clear hfz24_1
    try clear hfz24_2
    try clear hfz24_3
    try clear hfz8_0
    try clear hfz8_1
    try clear hfz8_2
    try clear hfz8_3
    try clear hfz9_0
    try clear hfz9_1
    try clear hfz9_2
    try clear hfz9_3
    obtain ⟨kq, x36_3, rfl, HA, HJ3, BK256, BK257, HB⟩ := hcut
    cases kq with
    | zero => exact absurd HA.out (by simp [registrarref04_Same.j0])
    | succ kj3 =>
      have H := HA.out
      clear HA
      simp only [registrarref04_Same.j0] at H
      by_cases c25 : x36_3 = true
      · subst c25
        have H1 : (some false) = some r := by rw [if_pos rfl] at H; exact H
        clear H
        have H := H1
        clear H1
        obtain rfl := Option.some.inj H
        go_wp2
        repeat (go_quiet (fail); try go_wp2)
        go_ret
        exact ⟨by first | rfl | (simp [errW_none, errW_some] <;> rfl) | (simp [*, errW_none, errW_some] <;> rfl), by repeat (first | (with_reducible first | exact HB.out | apply below_alloc | apply pw_below_drewN | apply below_drew1 | refine below_set ?_ GE256.out | refine below_set ?_ GE257.out) | exact HB.out)⟩
      · replace c25 := Bool.eq_false_iff.mpr c25
        subst c25
        have H1 : (registrarref04_Same.l0 kj3 0 a0_0 a0_1 l0_2 l0_3 a1_0 a1_1 l1_2 l1_3) = some r := by rw [if_neg (show ¬ (false = true) by decide)] at H; exact H
        clear H
        have H := H1
        clear H1
        have H' := Aside0.mk H
        clear H
        go_wp2
        repeat (go_quiet (fail); try go_wp2)
        go_loopg [6] kj3 (fun kq v6 w' => ∃ (x6_2 : Int), v6 = .int .i64 x6_2 ∧ Aside0 (registrarref04_Same.l0 kq x6_2 a0_0 a0_1 l0_2 l0_3 a1_0 a1_1 l1_2 l1_3 = some r) ∧ Aside0 (kq ≤ kj3) ∧ Aside0 (w'.heap[gb256]? = some (.cells #[.string a0_0, .string a0_1, (.slice A0_2 l0_2.length c0_2), (.slice A0_3 l0_3.length c0_3)] 26 (0, 0))) ∧ Aside0 (w'.heap[gb257]? = some (.cells #[.string a1_0, .string a1_1, (.slice A1_2 l1_2.length c1_2), (.slice A1_3 l1_3.length c1_3)] 26 (0, 0))) ∧ Aside0 (Below w.heap.size w w'))
        case atStart => exact ⟨(0), (by first | rfl | (simp; done) | (simp [*]; done)), H', ⟨Nat.le_refl _⟩, ⟨by (with_reducible repeat (first | refine blk_drewN ?_ _ | refine blk_drew ?_ | refine blk_alloc ?_ _)); exact BK256.out⟩, ⟨by (with_reducible repeat (first | refine blk_drewN ?_ _ | refine blk_drew ?_ | refine blk_alloc ?_ _)); exact BK257.out⟩, ⟨by repeat (first | (with_reducible first | exact HB.out | apply below_alloc | apply pw_below_drewN | apply below_drew1 | refine below_set ?_ GE256.out | refine below_set ?_ GE257.out) | exact HB.out)⟩⟩
        case round =>
          clear H'
          try clear c1
          try clear c2
          try clear p2
          try clear c7
          try clear c10
          try clear c10b0
          try clear c10b1
          try clear c11
          try clear c11b0
          try clear c11b1
          try clear c12
          try clear c13
          try clear c16
          try clear c19
          try clear c22
          try clear c25
          try clear hcz14_0
          try clear hcz14_1
          try clear hcz14_2
          try clear hcz14_3
          try clear hcz15_0
          try clear hcz15_1
          try clear hcz15_2
          try clear hcz15_3
          try clear hcz17_0
          try clear hcz17_1
          try clear hcz17_2
          try clear hcz17_3
          try clear hcz18_0
          try clear hcz18_1
          try clear hcz18_2
          try clear hcz18_3
          try clear hcz20_0
          try clear hcz20_1
          try clear hcz20_2
          try clear hcz20_3
          try clear hcz21_0
          try clear hcz21_1
          try clear hcz21_2
          try clear hcz21_3
          try clear hcz23_0
          try clear hcz23_1
          try clear hcz23_2
          try clear hcz23_3
          try clear hcz24_0
          try clear hcz24_1
          try clear hcz24_2
          try clear hcz24_3
          try clear hcz8_0
          try clear hcz8_1
          try clear hcz8_2
          try clear hcz8_3
          try clear hcz9_0
          try clear hcz9_1
          try clear hcz9_2
          try clear hcz9_3
          try clear hfz14_0
          try clear hfz14_1
          try clear hfz14_2
          try clear hfz14_3
          try clear hfz15_0
          try clear hfz15_1
          try clear hfz15_2
          try clear hfz15_3
          try clear hfz17_0
          try clear hfz17_1
          try clear hfz17_2
          try clear hfz17_3
          try clear hfz18_0
          try clear hfz18_1
          try clear hfz18_2
          try clear hfz18_3
          try clear hfz20_0
          try clear hfz20_1
          try clear hfz20_2
          try clear hfz20_3
          try clear hfz21_0
          try clear hfz21_1
          try clear hfz21_2
          try clear hfz21_3
          try clear hfz23_0
          try clear hfz23_1
          try clear hfz23_2
          try clear hfz23_3
          try clear hfz24_0
          try clear hfz24_1
          try clear hfz24_2
          try clear hfz24_3
          try clear hfz8_0
          try clear hfz8_1
          try clear hfz8_2
          try clear hfz8_3
          try clear hfz9_0
          try clear hfz9_1
          try clear hfz9_2
          try clear hfz9_3
          try clear p2
          obtain ⟨x6_2, rfl, HA, HK2, BK256, BK257, HB⟩ := hrel
          cases gk with
          | zero => exact absurd HA.out (by simp [registrarref04_Same.l0])
          | succ k2 =>
            have H := HA.out
            clear HA
            simp only [registrarref04_Same.l0] at H
            by_cases c26 : x6_2 < (l0_3.length : Int)
            · rw [if_pos c26] at H
              have c26b0 : decide (x6_2 < (l0_3.length : Int)) = true := decide_eq_true c26
              clear c26
              by_cases c27 : 0 ≤ x6_2
              · rw [if_pos c27] at H
                have c27b0 : decide (0 ≤ x6_2) = true := decide_eq_true c27
                clear c27
                by_cases c28 : x6_2 < (l1_3.length : Int)
                · rw [if_pos c28] at H
                  have c28b0 : decide (x6_2 < (l1_3.length : Int)) = true := decide_eq_true c28
                  clear c28
                  by_cases c29 : (!((((rd_T35 l0_3 x6_2).f0).toList) == (((rd_T35 l1_3 x6_2).f0).toList)) || (!(((rd_T35 l0_3 x6_2).f1) == ((rd_T35 l1_3 x6_2).f1)))) = true
                  · rw [if_pos c29] at H
                    have c29b0 : (!((((rd_T35 l0_3 x6_2).f0).toList) == (((rd_T35 l1_3 x6_2).f0).toList)) || (!(((rd_T35 l0_3 x6_2).f1) == ((rd_T35 l1_3 x6_2).f1)))) = true := c29
                    clear c29
                    obtain rfl := Option.some.inj H
                    have hnb30 := NB256_257.out
                    have hnc30 := NB257_256.out
                    have hcz31_0 : wr.cell? ⟨gb256, 0, none⟩ = some (.string a0_0) := (blk_cell BK256.out 0).trans rfl
                    have hcz31_1 : wr.cell? ⟨gb256, 1, none⟩ = some (.string a0_1) := (blk_cell BK256.out 1).trans rfl
                    have hcz31_2 : wr.cell? ⟨gb256, 2, none⟩ = some (.slice A0_2 l0_2.length c0_2) := (blk_cell BK256.out 2).trans rfl
                    have hcz31_3 : wr.cell? ⟨gb256, 3, none⟩ = some (.slice A0_3 l0_3.length c0_3) := (blk_cell BK256.out 3).trans rfl
                    have hfz31_0 := blk_frozen BK256.out 0
                    have hfz31_1 := blk_frozen BK256.out 1
                    have hfz31_2 := blk_frozen BK256.out 2
                    have hfz31_3 := blk_frozen BK256.out 3
                    have p259 : 0 ≤ (x6_2 : Int) := of_decide_eq_true (by first | (with_reducible assumption) | assumption)
                    have q259 : x6_2 < (l0_3.length : Int) := of_decide_eq_true (by first | (with_reducible assumption) | assumption)
                    obtain ⟨ad259, e259, hx259_0, hx259_1⟩ := at_T35 HR0_3.out x6_2 p259 q259
                    cases e259
                    replace hx259_0 := (HB.out.cell (World.block_lt_of_cell? w _ hx259_0)).trans hx259_0
                    replace hx259_1 := (HB.out.cell (World.block_lt_of_cell? w _ hx259_1)).trans hx259_1
                    replace p259 := eq_true p259
                    replace q259 := eq_true q259
                    have hcz32_0 : wr.cell? ⟨gb257, 0, none⟩ = some (.string a1_0) := (blk_cell BK257.out 0).trans rfl
                    have hcz32_1 : wr.cell? ⟨gb257, 1, none⟩ = some (.string a1_1) := (blk_cell BK257.out 1).trans rfl
                    have hcz32_2 : wr.cell? ⟨gb257, 2, none⟩ = some (.slice A1_2 l1_2.length c1_2) := (blk_cell BK257.out 2).trans rfl
                    have hcz32_3 : wr.cell? ⟨gb257, 3, none⟩ = some (.slice A1_3 l1_3.length c1_3) := (blk_cell BK257.out 3).trans rfl
                    have hfz32_0 := blk_frozen BK257.out 0
                    have hfz32_1 := blk_frozen BK257.out 1
                    have hfz32_2 := blk_frozen BK257.out 2
                    have hfz32_3 := blk_frozen BK257.out 3
                    have p260 : 0 ≤ (x6_2 : Int) := of_decide_eq_true (by first | (with_reducible assumption) | assumption)
                    have q260 : x6_2 < (l1_3.length : Int) := of_decide_eq_true (by first | (with_reducible assumption) | assumption)
                    obtain ⟨ad260, e260, hx260_0, hx260_1⟩ := at_T35 HR1_3.out x6_2 p260 q260
                    cases e260
                    replace hx260_0 := (HB.out.cell (World.block_lt_of_cell? w _ hx260_0)).trans hx260_0
                    replace hx260_1 := (HB.out.cell (World.block_lt_of_cell? w _ hx260_1)).trans hx260_1
                    replace p260 := eq_true p260
                    replace q260 := eq_true q260
                    go_wp2
                    repeat (go_quiet (fail); try go_wp2)
                    go_ret
                    exact ⟨by first | rfl | (simp [errW_none, errW_some] <;> rfl) | (simp [*, errW_none, errW_some] <;> rfl), by repeat (first | (with_reducible first | exact HB.out | apply below_alloc | apply pw_below_drewN | apply below_drew1 | refine below_set ?_ GE256.out | refine below_set ?_ GE257.out) | exact HB.out)⟩
                  · rw [if_neg c29] at H
                    have c29b0 : (!((((rd_T35 l0_3 x6_2).f0).toList) == (((rd_T35 l1_3 x6_2).f0).toList)) || (!(((rd_T35 l0_3 x6_2).f1) == ((rd_T35 l1_3 x6_2).f1)))) = false := by simpa using c29
                    clear c29
                    have H' := Aside0.mk H
                    clear H
                    have hnb33 := NB256_257.out
                    have hnc33 := NB257_256.out
                    have hcz34_0 : wr.cell? ⟨gb256, 0, none⟩ = some (.string a0_0) := (blk_cell BK256.out 0).trans rfl
                    have hcz34_1 : wr.cell? ⟨gb256, 1, none⟩ = some (.string a0_1) := (blk_cell BK256.out 1).trans rfl
                    have hcz34_2 : wr.cell? ⟨gb256, 2, none⟩ = some (.slice A0_2 l0_2.length c0_2) := (blk_cell BK256.out 2).trans rfl
                    have hcz34_3 : wr.cell? ⟨gb256, 3, none⟩ = some (.slice A0_3 l0_3.length c0_3) := (blk_cell BK256.out 3).trans rfl
                    have hfz34_0 := blk_frozen BK256.out 0
                    have hfz34_1 := blk_frozen BK256.out 1
                    have hfz34_2 := blk_frozen BK256.out 2
                    have hfz34_3 := blk_frozen BK256.out 3
                    have p259 : 0 ≤ (x6_2 : Int) := of_decide_eq_true (by first | (with_reducible assumption) | assumption)
                    have q259 : x6_2 < (l0_3.length : Int) := of_decide_eq_true (by first | (with_reducible assumption) | assumption)
                    obtain ⟨ad259, e259, hx259_0, hx259_1⟩ := at_T35 HR0_3.out x6_2 p259 q259
                    cases e259
                    replace hx259_0 := (HB.out.cell (World.block_lt_of_cell? w _ hx259_0)).trans hx259_0
                    replace hx259_1 := (HB.out.cell (World.block_lt_of_cell? w _ hx259_1)).trans hx259_1
                    replace p259 := eq_true p259
                    replace q259 := eq_true q259
                    have hcz35_0 : wr.cell? ⟨gb257, 0, none⟩ = some (.string a1_0) := (blk_cell BK257.out 0).trans rfl
                    have hcz35_1 : wr.cell? ⟨gb257, 1, none⟩ = some (.string a1_1) := (blk_cell BK257.out 1).trans rfl
                    have hcz35_2 : wr.cell? ⟨gb257, 2, none⟩ = some (.slice A1_2 l1_2.length c1_2) := (blk_cell BK257.out 2).trans rfl
                    have hcz35_3 : wr.cell? ⟨gb257, 3, none⟩ = some (.slice A1_3 l1_3.length c1_3) := (blk_cell BK257.out 3).trans rfl
                    have hfz35_0 := blk_frozen BK257.out 0
                    have hfz35_1 := blk_frozen BK257.out 1
                    have hfz35_2 := blk_frozen BK257.out 2
                    have hfz35_3 := blk_frozen BK257.out 3
                    have p260 : 0 ≤ (x6_2 : Int) := of_decide_eq_true (by first | (with_reducible assumption) | assumption)
                    have q260 : x6_2 < (l1_3.length : Int) := of_decide_eq_true (by first | (with_reducible assumption) | assumption)
                    obtain ⟨ad260, e260, hx260_0, hx260_1⟩ := at_T35 HR1_3.out x6_2 p260 q260
                    cases e260
                    replace hx260_0 := (HB.out.cell (World.block_lt_of_cell? w _ hx260_0)).trans hx260_0
                    replace hx260_1 := (HB.out.cell (World.block_lt_of_cell? w _ hx260_1)).trans hx260_1
                    replace p260 := eq_true p260
                    replace q260 := eq_true q260
                    go_wp2
                    repeat (go_quiet (fail); try go_wp2)
                    go_roundg k2
                    case measure => have := HJ3.out; have := HK2.out; omega
                    case rel => exact ⟨(wrap64 (x6_2 + 1)), (by first | rfl | (simp; done) | (simp [*]; done)), H', ⟨by have := HJ3.out; have := HK2.out; omega⟩, ⟨by (with_reducible repeat (first | refine blk_drewN ?_ _ | refine blk_drew ?_ | refine blk_alloc ?_ _)); exact BK256.out⟩, ⟨by (with_reducible repeat (first | refine blk_drewN ?_ _ | refine blk_drew ?_ | refine blk_alloc ?_ _)); exact BK257.out⟩, ⟨by repeat (first | (with_reducible first | exact HB.out | apply below_alloc | apply pw_below_drewN | apply below_drew1 | refine below_set ?_ GE256.out | refine below_set ?_ GE257.out) | exact HB.out)⟩⟩
                · rw [if_neg c28] at H
                  exact absurd H (by simp)
              · rw [if_neg c27] at H
                exact absurd H (by simp)
            · rw [if_neg c26] at H
              have c26b0 : decide (x6_2 < (l0_3.length : Int)) = false := decide_eq_false c26
              clear c26
              obtain rfl := Option.some.inj H
              have hnb36 := NB256_257.out
              have hnc36 := NB257_256.out
              have hcz37_0 : wr.cell? ⟨gb256, 0, none⟩ = some (.string a0_0) := (blk_cell BK256.out 0).trans rfl
              have hcz37_1 : wr.cell? ⟨gb256, 1, none⟩ = some (.string a0_1) := (blk_cell BK256.out 1).trans rfl
              have hcz37_2 : wr.cell? ⟨gb256, 2, none⟩ = some (.slice A0_2 l0_2.length c0_2) := (blk_cell BK256.out 2).trans rfl
              have hcz37_3 : wr.cell? ⟨gb256, 3, none⟩ = some (.slice A0_3 l0_3.length c0_3) := (blk_cell BK256.out 3).trans rfl
              have hfz37_0 := blk_frozen BK256.out 0
              have hfz37_1 := blk_frozen BK256.out 1
              have hfz37_2 := blk_frozen BK256.out 2
              have hfz37_3 := blk_frozen BK256.out 3
              go_wp2
              repeat (go_quiet (fail); try go_wp2)
              go_ret
              exact ⟨by first | rfl | (simp [errW_none, errW_some] <;> rfl) | (simp [*, errW_none, errW_some] <;> rfl), by repeat (first | (with_reducible first | exact HB.out | apply below_alloc | apply pw_below_drewN | apply below_drew1 | refine below_set ?_ GE256.out | refine below_set ?_ GE257.out) | exact HB.out)⟩

end Go.Proofs.Ytmnidohgnnpeiaa.Prt
namespace Go.Proofs.Ytmnidohgnnpeiaa.Prt
open Go.RowKit Go.Proofs.YtmnidohgnnpeiaaW.PrintWords Go.Proofs.YtmnidohgnnpeiaaW.PrintLast Go.Proofs.YtmnidohgnnpeiaaW.PrintMore
attribute [local go_sem] max2_int min2_int max_two min_two max_three min_three max_four min_four   -- for this text's walks alone
set_option linter.unusedVariables false
set_option linter.unusedSimpArgs false

/-! ### registrarref04_May: function 25 -/
mutual
def registrarref04_May.j0 : Nat → Bool → ByteArray → ByteArray → List ByteArray → List (S35) → Option (Int)
  | 0, _, _, _, _, _ => none
  | k + 1, x23, x175000, x175001, x175002, x175003 => if x23 = true then (some 5) else (if (x175002.length : Int) > 6 then (registrarref04_May.j1 k true x175000 x175001 x175002 x175003) else (registrarref04_May.j1 k (decide ((x175003.length : Int) > 4)) x175000 x175001 x175002 x175003))
def registrarref04_May.j1 : Nat → Bool → ByteArray → ByteArray → List ByteArray → List (S35) → Option (Int)
  | 0, _, _, _, _, _ => none
  | k + 1, x33, x175000, x175001, x175002, x175003 => if x33 = true then (some 3) else (registrarref04_May.l0 k (([] : List ByteArray)) true 0 x175000 x175001 x175002 x175003)
def registrarref04_May.l0 : Nat → List ByteArray → Bool → Int → ByteArray → ByteArray → List ByteArray → List (S35) → Option (Int)
  | 0, _, _, _, _, _, _, _ => none
  | k + 1, x5, x6, x7, x175000, x175001, x175002, x175003 => if x7 < (x175003.length : Int) then (if 0 ≤ x7 then ((registrarref03_MayG.f ((rd_T35 x175003 x7).f0)).bind fun t181 => (if t181 = true then (if x5.length < 8796093022208 then ((some (x5 ++ [(rd_T35 x175003 x7).f0] : List ByteArray)).bind fun y183 => (if x6 = true then (if ((rd_T35 x175003 x7).f1) ≥ (-1099511627776) then (registrarref04_May.l0 k y183 (decide (((rd_T35 x175003 x7).f1) ≤ 1099511627776)) (wrap64 (x7 + 1)) x175000 x175001 x175002 x175003) else (registrarref04_May.l0 k y183 false (wrap64 (x7 + 1)) x175000 x175001 x175002 x175003)) else (registrarref04_May.l0 k y183 false (wrap64 (x7 + 1)) x175000 x175001 x175002 x175003))) else (none)) else (some 5))) else (none)) else ((registrarref04_tagsG.f x175002).bind fun t188 => (if t188 = true then ((registrarref04_RiseG.f x175002).bind fun t189 => ((registrarref04_RiseG.f x5).bind fun t190 => (if x6 = true then (if t189 = true then (if t190 = true then (some 0) else (some 1)) else (some 1)) else (some 1)))) else (some 5)))
end
def registrarref04_May.f (k : Nat) (a0_0 : ByteArray) (a0_1 : ByteArray) (l0_2 : List ByteArray) (l0_3 : List (S35)) : Option (Int) := (registrarref03_MayG.f a0_0).bind fun t175 => ((registrarref03_MayG.f a0_1).bind fun t176 => (if t175 = true then (registrarref04_May.j0 k (!t176) a0_0 a0_1 l0_2 l0_3) else (registrarref04_May.j0 k true a0_0 a0_1 l0_2 l0_3)))
theorem registrarref04_May.mono_l : ∀ k, (∀ y0 y1 y2 y3 y4, LeO (registrarref04_May.j0 k y0 y1 y2 y3 y4) (registrarref04_May.j0 (k + 1) y0 y1 y2 y3 y4)) ∧ (∀ y0 y1 y2 y3 y4, LeO (registrarref04_May.j1 k y0 y1 y2 y3 y4) (registrarref04_May.j1 (k + 1) y0 y1 y2 y3 y4)) ∧ (∀ y0 y1 y2 y3 y4 y5 y6, LeO (registrarref04_May.l0 k y0 y1 y2 y3 y4 y5 y6) (registrarref04_May.l0 (k + 1) y0 y1 y2 y3 y4 y5 y6))
  | 0 => ⟨fun _ _ _ _ _ r h => by simp [registrarref04_May.j0] at h, fun _ _ _ _ _ r h => by simp [registrarref04_May.j1] at h, fun _ _ _ _ _ _ _ r h => by simp [registrarref04_May.l0] at h⟩
  | k + 1 => by
    obtain ⟨ih0, ih1, ih2⟩ := registrarref04_May.mono_l k
    refine ⟨?_, ?_, ?_⟩
    · intro y0 y1 y2 y3 y4
      unfold registrarref04_May.j0
      repeat' first
      | (with_reducible exact ih0 _ _ _ _ _)
      | (with_reducible exact ih1 _ _ _ _ _)
      | (with_reducible exact ih2 _ _ _ _ _ _ _)
      | (with_reducible exact LeO.refl _)
      | (with_reducible exact LeO.none _)
      | (with_reducible refine LeO.ite ?_ ?_)
      | (with_reducible refine LeO.bind ?_ (fun _ => ?_))
      | exact ih0 _ _ _ _ _
      | exact ih1 _ _ _ _ _
      | exact ih2 _ _ _ _ _ _ _
      | exact LeO.none _
      | refine LeO.ite ?_ ?_
      | refine LeO.bind ?_ (fun _ => ?_)
    · intro y0 y1 y2 y3 y4
      unfold registrarref04_May.j1
      repeat' first
      | (with_reducible exact ih0 _ _ _ _ _)
      | (with_reducible exact ih1 _ _ _ _ _)
      | (with_reducible exact ih2 _ _ _ _ _ _ _)
      | (with_reducible exact LeO.refl _)
      | (with_reducible exact LeO.none _)
      | (with_reducible refine LeO.ite ?_ ?_)
      | (with_reducible refine LeO.bind ?_ (fun _ => ?_))
      | exact ih0 _ _ _ _ _
      | exact ih1 _ _ _ _ _
      | exact ih2 _ _ _ _ _ _ _
      | exact LeO.none _
      | refine LeO.ite ?_ ?_
      | refine LeO.bind ?_ (fun _ => ?_)
    · intro y0 y1 y2 y3 y4 y5 y6
      unfold registrarref04_May.l0
      repeat' first
      | (with_reducible exact ih0 _ _ _ _ _)
      | (with_reducible exact ih1 _ _ _ _ _)
      | (with_reducible exact ih2 _ _ _ _ _ _ _)
      | (with_reducible exact LeO.refl _)
      | (with_reducible exact LeO.none _)
      | (with_reducible refine LeO.ite ?_ ?_)
      | (with_reducible refine LeO.bind ?_ (fun _ => ?_))
      | exact ih0 _ _ _ _ _
      | exact ih1 _ _ _ _ _
      | exact ih2 _ _ _ _ _ _ _
      | exact LeO.none _
      | refine LeO.ite ?_ ?_
      | refine LeO.bind ?_ (fun _ => ?_)
theorem registrarref04_May.mono : ∀ a0 a1 a2 a3 k, LeO (registrarref04_May.f k a0 a1 a2 a3) (registrarref04_May.f (k + 1) a0 a1 a2 a3) := by
  intro a0 a1 a2 a3 k
  obtain ⟨ih0, ih1, ih2⟩ := registrarref04_May.mono_l k
  unfold registrarref04_May.f
  repeat' first
      | (with_reducible exact ih0 _ _ _ _ _)
      | (with_reducible exact ih1 _ _ _ _ _)
      | (with_reducible exact ih2 _ _ _ _ _ _ _)
      | (with_reducible exact LeO.refl _)
      | (with_reducible exact LeO.none _)
      | (with_reducible refine LeO.ite ?_ ?_)
      | (with_reducible refine LeO.bind ?_ (fun _ => ?_))
      | exact ih0 _ _ _ _ _
      | exact ih1 _ _ _ _ _
      | exact ih2 _ _ _ _ _ _ _
      | exact LeO.none _
      | refine LeO.ite ?_ ?_
      | refine LeO.bind ?_ (fun _ => ?_)
set_option maxHeartbeats 8000000 in
set_option maxRecDepth 100000 in
theorem registrarref04_May.calls (k : Nat) (a0_0 : ByteArray) (a0_1 : ByteArray) (A0_2 : Option Addr) (c0_2 : Nat) (l0_2 : List ByteArray) (A0_3 : Option Addr) (c0_3 : Nat) (l0_3 : List (S35)) (r : Int) (w : World) (hr0_2 : Kd.C Kd.string w A0_2 l0_2.length l0_2) (hc0_2 : l0_2.length ≤ c0_2) (hr0_3 : Kd.C k35 w A0_3 l0_3.length l0_3) (hc0_3 : l0_3.length ≤ c0_3) (h : registrarref04_May.f k a0_0 a0_1 l0_2 l0_3 = some r) :
    Calls Try.prog 25 #[.agg #[.string a0_0, .string a0_1, .slice A0_2 l0_2.length c0_2, .slice A0_3 l0_3.length c0_3]] w fun e w' => e = .returned (.int .i64 r) ∧ Below w.heap.size w w' := by
  have hu26 := Try.underlying26
  have HR0_2 := Aside0.mk hr0_2
  have HC0_2 := Aside0.mk hc0_2
  clear hr0_2 hc0_2
  have HR0_3 := Aside0.mk hr0_3
  have HC0_3 := Aside0.mk hc0_3
  clear hr0_3 hc0_3
  have HB := Aside0.mk (Below.refl w.heap.size w)
  have H : ((registrarref03_MayG.f a0_0).bind fun t175 => ((registrarref03_MayG.f a0_1).bind fun t176 => (if t175 = true then (registrarref04_May.j0 k (!t176) a0_0 a0_1 l0_2 l0_3) else (registrarref04_May.j0 k true a0_0 a0_1 l0_2 l0_3)))) = some r := h
  clear h
  replace H := Option.bind_eq_some_iff.mp H
  obtain ⟨t175, A20, H⟩ := H
  replace H : ((registrarref03_MayG.f a0_1).bind fun t176 => (if t175 = true then (registrarref04_May.j0 k (!t176) a0_0 a0_1 l0_2 l0_3) else (registrarref04_May.j0 k true a0_0 a0_1 l0_2 l0_3))) = some r := H
  have A2 := Aside0.mk A20
  clear A20
  replace H := Option.bind_eq_some_iff.mp H
  obtain ⟨t176, A30, H⟩ := H
  replace H : (if t175 = true then (registrarref04_May.j0 k (!t176) a0_0 a0_1 l0_2 l0_3) else (registrarref04_May.j0 k true a0_0 a0_1 l0_2 l0_3)) = some r := H
  have A3 := Aside0.mk A30
  clear A30
  have HC4 := Aside0.mk H
  clear H
  go_enter Try.func25, Try.ntmps25
  go_upto_region 3 with (first | ((with_reducible refine gate_dst (N := 1) rfl ?_); (try (refine gate_guard (by rfl) ?_; dsimp only)); refine box_event ?hg (N := 1) ?hd (cs := #[.string a0_0, .string a0_1, .slice A0_2 l0_2.length c0_2, .slice A0_3 l0_3.length c0_3]) (t := 26) ?hr ?_; (case hd => rfl); (case hg => rfl); (case hr => first | (go_simp; done) | (go_simp; rfl)); intro gb174 hg w5 hbox hb; have n0_ := Aside0.mk (below_step (by repeat (first | (with_reducible first | exact HB.out | apply below_alloc | apply pw_below_drewN | apply below_drew1) | exact HB.out)) hb); have n1_ := Aside0.mk (hbox); have n2_ := Aside0.mk ((by rw [hg]; exact (below_size (by repeat (first | (with_reducible first | exact HB.out | apply below_alloc | apply pw_below_drewN | apply below_drew1) | exact HB.out))) : w.heap.size ≤ gb174)); have n3_ := Aside0.mk ((by rw [hg]; exact (below_size (by repeat (first | (with_reducible first | exact HB.out | apply below_alloc | apply pw_below_drewN | apply below_drew1) | exact HB.out))) : w.heap.size ≤ gb174)); clear HB; have HB := n0_; have BK174 := n1_; have GW174 := n2_; have GE174 := n3_; clear n0_ n1_ n2_ n3_; clear hb hbox hg; have hcz6_0 : w5.cell? ⟨gb174, 0, none⟩ = some (.string a0_0) := (blk_cell BK174.out 0).trans rfl; have hcz6_1 : w5.cell? ⟨gb174, 1, none⟩ = some (.string a0_1) := (blk_cell BK174.out 1).trans rfl; have hcz6_2 : w5.cell? ⟨gb174, 2, none⟩ = some (.slice A0_2 l0_2.length c0_2) := (blk_cell BK174.out 2).trans rfl; have hcz6_3 : w5.cell? ⟨gb174, 3, none⟩ = some (.slice A0_3 l0_3.length c0_3) := (blk_cell BK174.out 3).trans rfl; have hfz6_0 := blk_frozen BK174.out 0; have hfz6_1 := blk_frozen BK174.out 1; have hfz6_2 := blk_frozen BK174.out 2; have hfz6_3 := blk_frozen BK174.out 3) | ((with_reducible refine gate_callee (f := 44) rfl ?_); refine goesL_ (some 14) rfl rfl Try.func44 (by kernel_rfl) rfl #[.string a0_0] rfl (by (try simp only [List.map_toArray, List.map_cons, List.map_nil]); first | done | rfl | (simp only [List.length_drop, List.length_take]; rfl)) ?_; (with_reducible refine (registrarref03_MayG.calls a0_0 t175 _ A2.out).mono ?_); rintro e w7 ⟨rfl, hb⟩; refine ⟨_, rfl, ?_⟩; have n0_ := Aside0.mk (blk_below (g := gb174) (o := .cells #[.string a0_0, .string a0_1, .slice A0_2 l0_2.length c0_2, .slice A0_3 l0_3.length c0_3] 26 (0, 0)) (by (with_reducible repeat (first | refine blk_drewN ?_ _ | refine blk_drew ?_ | refine blk_alloc ?_ _)); exact BK174.out) hb); have n1_ := Aside0.mk (below_step (by repeat (first | (with_reducible first | exact HB.out | apply below_alloc | apply pw_below_drewN | apply below_drew1 | refine below_set ?_ GE174.out) | exact HB.out)) hb); clear BK174; clear HB; have BK174 := n0_; have HB := n1_; clear n0_ n1_; (try clear hb); (try clear hb2); (try clear hk); (try clear hi); have hcz8_0 : w7.cell? ⟨gb174, 0, none⟩ = some (.string a0_0) := (blk_cell BK174.out 0).trans rfl; have hcz8_1 : w7.cell? ⟨gb174, 1, none⟩ = some (.string a0_1) := (blk_cell BK174.out 1).trans rfl; have hcz8_2 : w7.cell? ⟨gb174, 2, none⟩ = some (.slice A0_2 l0_2.length c0_2) := (blk_cell BK174.out 2).trans rfl; have hcz8_3 : w7.cell? ⟨gb174, 3, none⟩ = some (.slice A0_3 l0_3.length c0_3) := (blk_cell BK174.out 3).trans rfl; have hfz8_0 := blk_frozen BK174.out 0; have hfz8_1 := blk_frozen BK174.out 1; have hfz8_2 := blk_frozen BK174.out 2; have hfz8_3 := blk_frozen BK174.out 3) | ((with_reducible refine gate_callee (f := 44) rfl ?_); refine goesL_ (some 17) rfl rfl Try.func44 (by kernel_rfl) rfl #[.string a0_1] rfl (by (try simp only [List.map_toArray, List.map_cons, List.map_nil]); first | done | rfl | (simp only [List.length_drop, List.length_take]; rfl)) ?_; (with_reducible refine (registrarref03_MayG.calls a0_1 t176 _ A3.out).mono ?_); rintro e w9 ⟨rfl, hb⟩; refine ⟨_, rfl, ?_⟩; have n0_ := Aside0.mk (blk_below (g := gb174) (o := .cells #[.string a0_0, .string a0_1, .slice A0_2 l0_2.length c0_2, .slice A0_3 l0_3.length c0_3] 26 (0, 0)) (by (with_reducible repeat (first | refine blk_drewN ?_ _ | refine blk_drew ?_ | refine blk_alloc ?_ _)); exact BK174.out) hb); have n1_ := Aside0.mk (below_step (by repeat (first | (with_reducible first | exact HB.out | apply below_alloc | apply pw_below_drewN | apply below_drew1 | refine below_set ?_ GE174.out) | exact HB.out)) hb); clear BK174; clear HB; have BK174 := n0_; have HB := n1_; clear n0_ n1_; (try clear hb); (try clear hb2); (try clear hk); (try clear hi)))
  (try simp only [Act.put, List.setIfInBounds_toArray, List.set_cons_zero, List.set_cons_succ])
  go_cut [23] (fun v23 wc => ∃ (kq : Nat) (x23_3 : Bool), v23 = .bool x23_3 ∧ Aside0 (registrarref04_May.j0 kq x23_3 a0_0 a0_1 l0_2 l0_3 = some r) ∧ Aside0 (kq ≤ k) ∧ Aside0 (wc.heap[gb174]? = some (.cells #[.string a0_0, .string a0_1, (.slice A0_2 l0_2.length c0_2), (.slice A0_3 l0_3.length c0_3)] 26 (0, 0))) ∧ Aside0 (Below w.heap.size w wc))
  case first =>
    have H := HC4.out
    clear HC4
    by_cases c10 : t175 = true
    · subst c10
      have H1 : (registrarref04_May.j0 k (!t176) a0_0 a0_1 l0_2 l0_3) = some r := by rw [if_pos rfl] at H; exact H
      clear H
      have H := H1
      clear H1
      have H' := Aside0.mk H
      clear H
      go_wp2
      go_meet
      case rel => exact ⟨_, (!t176), (by first | rfl | (simp; done) | (simp [*]; done)), H', ⟨by first | omega | exact Nat.le_refl _⟩, ⟨by (with_reducible repeat (first | refine blk_drewN ?_ _ | refine blk_drew ?_ | refine blk_alloc ?_ _)); exact BK174.out⟩, ⟨by repeat (first | (with_reducible first | exact HB.out | apply below_alloc | apply pw_below_drewN | apply below_drew1 | refine below_set ?_ GE174.out) | exact HB.out)⟩⟩
    · replace c10 := Bool.eq_false_iff.mpr c10
      subst c10
      have H1 : (registrarref04_May.j0 k true a0_0 a0_1 l0_2 l0_3) = some r := by rw [if_neg (show ¬ (false = true) by decide)] at H; exact H
      clear H
      have H := H1
      clear H1
      have H' := Aside0.mk H
      clear H
      go_wp2
      go_meet
      case rel => exact ⟨_, (true), (by first | rfl | (simp; done) | (simp [*]; done)), H', ⟨by first | omega | exact Nat.le_refl _⟩, ⟨by (with_reducible repeat (first | refine blk_drewN ?_ _ | refine blk_drew ?_ | refine blk_alloc ?_ _)); exact BK174.out⟩, ⟨by repeat (first | (with_reducible first | exact HB.out | apply below_alloc | apply pw_below_drewN | apply below_drew1 | refine below_set ?_ GE174.out) | exact HB.out)⟩⟩
  case rest =>
    clear HC4
    try clear c1
    try clear c2
    try clear p2
    try clear c4
    try clear c10
    try clear hcz6_0
    try clear hcz6_1
    try clear hcz6_2
    try clear hcz6_3
    try clear hcz8_0
    try clear hcz8_1
    try clear hcz8_2
    try clear hcz8_3
    try clear hfz6_0
    try clear hfz6_1
    try clear hfz6_2
    try clear hfz6_3
    try clear hfz8_0
    try clear hfz8_1
    try clear hfz8_2
    try clear hfz8_3
    obtain ⟨kq, x23_3, rfl, HA, HJ3, BK174, HB⟩ := hcut
    cases kq with
    | zero => exact absurd HA.out (by simp [registrarref04_May.j0])
    | succ kj3 =>
      have H := HA.out
      clear HA
      simp only [registrarref04_May.j0] at H
      by_cases c11 : x23_3 = true
      · subst c11
        have H1 : (some 5) = some r := by rw [if_pos rfl] at H; exact H
        clear H
        have H := H1
        clear H1
        obtain rfl := Option.some.inj H
        go_wp2
        go_ret
        exact ⟨by first | rfl | (simp [errW_none, errW_some] <;> rfl) | (simp [*, errW_none, errW_some] <;> rfl), by repeat (first | (with_reducible first | exact HB.out | apply below_alloc | apply pw_below_drewN | apply below_drew1 | refine below_set ?_ GE174.out) | exact HB.out)⟩
      · replace c11 := Bool.eq_false_iff.mpr c11
        subst c11
        have H1 : (if (l0_2.length : Int) > 6 then (registrarref04_May.j1 kj3 true a0_0 a0_1 l0_2 l0_3) else (registrarref04_May.j1 kj3 (decide ((l0_3.length : Int) > 4)) a0_0 a0_1 l0_2 l0_3)) = some r := by rw [if_neg (show ¬ (false = true) by decide)] at H; exact H
        clear H
        have H := H1
        clear H1
        have HC12 := Aside0.mk H
        clear H
        go_upto_region 5 with (fail)
        go_cut [33] (fun v33 wc => ∃ (kq : Nat) (x33_11 : Bool), v33 = .bool x33_11 ∧ Aside0 (registrarref04_May.j1 kq x33_11 a0_0 a0_1 l0_2 l0_3 = some r) ∧ Aside0 (kq ≤ kj3) ∧ Aside0 (wc.heap[gb174]? = some (.cells #[.string a0_0, .string a0_1, (.slice A0_2 l0_2.length c0_2), (.slice A0_3 l0_3.length c0_3)] 26 (0, 0))) ∧ Aside0 (Below w.heap.size w wc))
        case first =>
          have H := HC12.out
          clear HC12
          by_cases c13 : (l0_2.length : Int) > 6
          · rw [if_pos c13] at H
            have c13b0 : decide (6 < (l0_2.length : Int)) = true := decide_eq_true c13
            have c13b1 : decide (6 < l0_2.length) = true := decide_eq_true (by omega)
            clear c13
            (first | rw [c13b0] | (simp only [i64_w, i32_w]; rw [c13b0]) | skip)
            have H' := Aside0.mk H
            clear H
            have hcz14_0 : wc.cell? ⟨gb174, 0, none⟩ = some (.string a0_0) := (blk_cell BK174.out 0).trans rfl
            have hcz14_1 : wc.cell? ⟨gb174, 1, none⟩ = some (.string a0_1) := (blk_cell BK174.out 1).trans rfl
            have hcz14_2 : wc.cell? ⟨gb174, 2, none⟩ = some (.slice A0_2 l0_2.length c0_2) := (blk_cell BK174.out 2).trans rfl
            have hcz14_3 : wc.cell? ⟨gb174, 3, none⟩ = some (.slice A0_3 l0_3.length c0_3) := (blk_cell BK174.out 3).trans rfl
            have hfz14_0 := blk_frozen BK174.out 0
            have hfz14_1 := blk_frozen BK174.out 1
            have hfz14_2 := blk_frozen BK174.out 2
            have hfz14_3 := blk_frozen BK174.out 3
            go_wp2
            go_meet
            case rel => exact ⟨_, (true), (by first | rfl | (simp; done) | (simp [*]; done)), H', ⟨by have := HJ3.out; first | omega | exact Nat.le_refl _⟩, ⟨by (with_reducible repeat (first | refine blk_drewN ?_ _ | refine blk_drew ?_ | refine blk_alloc ?_ _)); exact BK174.out⟩, ⟨by repeat (first | (with_reducible first | exact HB.out | apply below_alloc | apply pw_below_drewN | apply below_drew1 | refine below_set ?_ GE174.out) | exact HB.out)⟩⟩
          · rw [if_neg c13] at H
            have c13b0 : decide (6 < (l0_2.length : Int)) = false := decide_eq_false c13
            have c13b1 : decide (6 < l0_2.length) = false := decide_eq_false (by omega)
            clear c13
            (first | rw [c13b0] | (simp only [i64_w, i32_w]; rw [c13b0]) | skip)
            have H' := Aside0.mk H
            clear H
            have hcz15_0 : wc.cell? ⟨gb174, 0, none⟩ = some (.string a0_0) := (blk_cell BK174.out 0).trans rfl
            have hcz15_1 : wc.cell? ⟨gb174, 1, none⟩ = some (.string a0_1) := (blk_cell BK174.out 1).trans rfl
            have hcz15_2 : wc.cell? ⟨gb174, 2, none⟩ = some (.slice A0_2 l0_2.length c0_2) := (blk_cell BK174.out 2).trans rfl
            have hcz15_3 : wc.cell? ⟨gb174, 3, none⟩ = some (.slice A0_3 l0_3.length c0_3) := (blk_cell BK174.out 3).trans rfl
            have hfz15_0 := blk_frozen BK174.out 0
            have hfz15_1 := blk_frozen BK174.out 1
            have hfz15_2 := blk_frozen BK174.out 2
            have hfz15_3 := blk_frozen BK174.out 3
            go_wp2
            go_meet
            case rel => exact ⟨_, (decide ((l0_3.length : Int) > 4)), (by first | rfl | (simp; done) | (simp [*]; done)), H', ⟨by have := HJ3.out; first | omega | exact Nat.le_refl _⟩, ⟨by (with_reducible repeat (first | refine blk_drewN ?_ _ | refine blk_drew ?_ | refine blk_alloc ?_ _)); exact BK174.out⟩, ⟨by repeat (first | (with_reducible first | exact HB.out | apply below_alloc | apply pw_below_drewN | apply below_drew1 | refine below_set ?_ GE174.out) | exact HB.out)⟩⟩
        case rest =>
          clear HC12
          try clear c1
          try clear c2
          try clear p2
          try clear c4
          try clear c10
          try clear c11
          try clear c13
          try clear c13b0
          try clear c13b1
          try clear hcz14_0
          try clear hcz14_1
          try clear hcz14_2
          try clear hcz14_3
          try clear hcz15_0
          try clear hcz15_1
          try clear hcz15_2
          try clear hcz15_3
          try clear hcz6_0
          try clear hcz6_1
          try clear hcz6_2
          try clear hcz6_3
          try clear hcz8_0
          try clear hcz8_1
          try clear hcz8_2
          try clear hcz8_3
          try clear hfz14_0
          try clear hfz14_1
          try clear hfz14_2
          try clear hfz14_3
          try clear hfz15_0
          try clear hfz15_1
          try clear hfz15_2
          try clear hfz15_3
          try clear hfz6_0
          try clear hfz6_1
          try clear hfz6_2
          try clear hfz6_3
          try clear hfz8_0
          try clear hfz8_1
          try clear hfz8_2
          try clear hfz8_3
          try clear p2
          obtain ⟨kq, x33_11, rfl, HA, HJ11, BK174, HB⟩ := hcut
          cases kq with
          | zero => exact absurd HA.out (by simp [registrarref04_May.j1])
          | succ kj11 =>
            have H := HA.out
            clear HA
            simp only [registrarref04_May.j1] at H
            by_cases c16 : x33_11 = true
            · subst c16
              have H1 : (some 3) = some r := by rw [if_pos rfl] at H; exact H
              clear H
              have H := H1
              clear H1
              obtain rfl := Option.some.inj H
              go_wp2
              go_ret
              exact ⟨by first | rfl | (simp [errW_none, errW_some] <;> rfl) | (simp [*, errW_none, errW_some] <;> rfl), by repeat (first | (with_reducible first | exact HB.out | apply below_alloc | apply pw_below_drewN | apply below_drew1 | refine below_set ?_ GE174.out) | exact HB.out)⟩
            · replace c16 := Bool.eq_false_iff.mpr c16
              subst c16
              have H1 : (registrarref04_May.l0 kj11 (([] : List ByteArray)) true 0 a0_0 a0_1 l0_2 l0_3) = some r := by rw [if_neg (show ¬ (false = true) by decide)] at H; exact H
              clear H
              have H := H1
              clear H1
              obtain ⟨y177, hy177⟩ : ∃ y_ : List ByteArray, y_ = (([] : List ByteArray)) := ⟨_, rfl⟩
              replace H : (registrarref04_May.l0 kj11 y177 true 0 a0_0 a0_1 l0_2 l0_3) = some r := by first | (rw [hy177]; with_reducible exact H) | (have H2_ := (Option.bind_some _ _).symm.trans H; rw [hy177]; with_reducible exact H2_) | (have H2_ := (Option.bind_some _ _).symm.trans H; with_reducible exact H2_) | with_reducible exact H | (rw [hy177]; exact H) | exact H
              have Ny177 := Aside0.mk hy177
              clear hy177
              have H' := Aside0.mk H
              clear H
              go_wp2_with (first | ((with_reducible refine gate_dst (N := 34) rfl ?_); (try (refine gate_guard (by rfl) ?_; dsimp only)); refine Kd.R_lit Kd.string _ 9 ?hg (N := 34) ?hd (xs := ([] : List ByteArray)) (inner := []) (ok := fun _ => True) (okp := fun _ => True) ?hr ?hp (fun _ hk => hk) trivial (Below.refl _ _) (Nat.le_refl _) (by simp) ?_; (case hd => rfl); (case hg => rfl); (case hr => first | (go_simp; done) | (go_simp; rfl)); (case hp => exact (Reps.none _ _)); intro v178 w17 ho18 hb hg_ hnew_; clear hg_ hnew_; (first | rw [← Ny177.out] at ho18 | (simp only [Int.reduceToNat] at ho18; rw [← Ny177.out] at ho18)); have n0_ := Aside0.mk (Kd.R_lower ho18 (below_size (by repeat (first | (with_reducible first | exact HB.out | apply below_alloc | apply pw_below_drewN | apply below_drew1 | refine below_set ?_ GE174.out) | exact HB.out)))); have n1_ := Aside0.mk (blk_below (g := gb174) (o := .cells #[.string a0_0, .string a0_1, .slice A0_2 l0_2.length c0_2, .slice A0_3 l0_3.length c0_3] 26 (0, 0)) (by (with_reducible repeat (first | refine blk_drewN ?_ _ | refine blk_drew ?_ | refine blk_alloc ?_ _)); exact BK174.out) hb); have n2_ := Aside0.mk (below_step (by repeat (first | (with_reducible first | exact HB.out | apply below_alloc | apply pw_below_drewN | apply below_drew1 | refine below_set ?_ GE174.out) | exact HB.out)) hb); clear BK174; clear HB; have HO179 := n0_; have BK174 := n1_; have HB := n2_; clear n0_ n1_ n2_; clear hb ho18))
              go_loopg [5, 6, 7] kj11 (fun kq v5 v6 v7 w' => ∃ (x5_3 : List ByteArray) (x6_3 : Bool) (x7_3 : Int), v6 = .bool x6_3 ∧ v7 = .int .i64 x7_3 ∧ Aside0 (registrarref04_May.l0 kq x5_3 x6_3 x7_3 a0_0 a0_1 l0_2 l0_3 = some r) ∧ Aside0 (kq ≤ kj11) ∧ Aside0 (Kd.R Kd.string 9 w' w.heap.size (fun _ => True) v5 x5_3) ∧ Aside0 (w'.heap[gb174]? = some (.cells #[.string a0_0, .string a0_1, (.slice A0_2 l0_2.length c0_2), (.slice A0_3 l0_3.length c0_3)] 26 (0, 0))) ∧ Aside0 (Below w.heap.size w w'))
              case atStart => exact ⟨(y177), (true), (0), (by first | rfl | (simp; done) | (simp [*]; done)), (by first | rfl | (simp; done) | (simp [*]; done)), H', ⟨Nat.le_refl _⟩, ⟨by (with_reducible repeat (first | apply Kd.R_alloc | apply Kd.R_drewN | apply Kd.R_drew)); exact HO179.out⟩, ⟨by (with_reducible repeat (first | refine blk_drewN ?_ _ | refine blk_drew ?_ | refine blk_alloc ?_ _)); exact BK174.out⟩, ⟨by repeat (first | (with_reducible first | exact HB.out | apply below_alloc | apply pw_below_drewN | apply below_drew1 | refine below_set ?_ GE174.out) | exact HB.out)⟩⟩
              case round =>
                clear H'
                try clear c1
                try clear c2
                try clear p2
                try clear c4
                try clear c10
                try clear c11
                try clear c13
                try clear c13b0
                try clear c13b1
                try clear c16
                try clear hcz14_0
                try clear hcz14_1
                try clear hcz14_2
                try clear hcz14_3
                try clear hcz15_0
                try clear hcz15_1
                try clear hcz15_2
                try clear hcz15_3
                try clear hcz6_0
                try clear hcz6_1
                try clear hcz6_2
                try clear hcz6_3
                try clear hcz8_0
                try clear hcz8_1
                try clear hcz8_2
                try clear hcz8_3
                try clear hfz14_0
                try clear hfz14_1
                try clear hfz14_2
                try clear hfz14_3
                try clear hfz15_0
                try clear hfz15_1
                try clear hfz15_2
                try clear hfz15_3
                try clear hfz6_0
                try clear hfz6_1
                try clear hfz6_2
                try clear hfz6_3
                try clear hfz8_0
                try clear hfz8_1
                try clear hfz8_2
                try clear hfz8_3
                try clear p2
                obtain ⟨x5_3, x6_3, x7_3, rfl, rfl, HA, HK3, HO_5, BK174, HB⟩ := hrel
                cases gk with
                | zero => exact absurd HA.out (by simp [registrarref04_May.l0])
                | succ k3 =>
                  have H := HA.out
                  clear HA
                  simp only [registrarref04_May.l0] at H
                  by_cases c19 : x7_3 < (l0_3.length : Int)
                  · rw [if_pos c19] at H
                    have c19b0 : decide (x7_3 < (l0_3.length : Int)) = true := decide_eq_true c19
                    clear c19
                    by_cases c20 : 0 ≤ x7_3
                    · rw [if_pos c20] at H
                      have c20b0 : decide (0 ≤ x7_3) = true := decide_eq_true c20
                      clear c20
                      replace H := Option.bind_eq_some_iff.mp H
                      obtain ⟨t181, A210, H⟩ := H
                      replace H : (if t181 = true then (if x5_3.length < 8796093022208 then ((some (x5_3 ++ [(rd_T35 l0_3 x7_3).f0] : List ByteArray)).bind fun y183 => (if x6_3 = true then (if ((rd_T35 l0_3 x7_3).f1) ≥ (-1099511627776) then (registrarref04_May.l0 k3 y183 (decide (((rd_T35 l0_3 x7_3).f1) ≤ 1099511627776)) (wrap64 (x7_3 + 1)) a0_0 a0_1 l0_2 l0_3) else (registrarref04_May.l0 k3 y183 false (wrap64 (x7_3 + 1)) a0_0 a0_1 l0_2 l0_3)) else (registrarref04_May.l0 k3 y183 false (wrap64 (x7_3 + 1)) a0_0 a0_1 l0_2 l0_3))) else (none)) else (some 5)) = some r := H
                      have A21 := Aside0.mk A210
                      clear A210
                      by_cases c22 : t181 = true
                      · subst c22
                        have H1 : (if x5_3.length < 8796093022208 then ((some (x5_3 ++ [(rd_T35 l0_3 x7_3).f0] : List ByteArray)).bind fun y183 => (if x6_3 = true then (if ((rd_T35 l0_3 x7_3).f1) ≥ (-1099511627776) then (registrarref04_May.l0 k3 y183 (decide (((rd_T35 l0_3 x7_3).f1) ≤ 1099511627776)) (wrap64 (x7_3 + 1)) a0_0 a0_1 l0_2 l0_3) else (registrarref04_May.l0 k3 y183 false (wrap64 (x7_3 + 1)) a0_0 a0_1 l0_2 l0_3)) else (registrarref04_May.l0 k3 y183 false (wrap64 (x7_3 + 1)) a0_0 a0_1 l0_2 l0_3))) else (none)) = some r := by rw [if_pos rfl] at H; exact H
                        clear H
                        have H := H1
                        clear H1
                        by_cases c23 : x5_3.length < 8796093022208
                        · rw [if_pos c23] at H
                          have LMc23 := Aside0.mk c23
                          clear c23
                          obtain ⟨y183, hy183⟩ : ∃ y_ : List ByteArray, y_ = (x5_3 ++ [(rd_T35 l0_3 x7_3).f0]) := ⟨_, rfl⟩
                          replace H : (if x6_3 = true then (if ((rd_T35 l0_3 x7_3).f1) ≥ (-1099511627776) then (registrarref04_May.l0 k3 y183 (decide (((rd_T35 l0_3 x7_3).f1) ≤ 1099511627776)) (wrap64 (x7_3 + 1)) a0_0 a0_1 l0_2 l0_3) else (registrarref04_May.l0 k3 y183 false (wrap64 (x7_3 + 1)) a0_0 a0_1 l0_2 l0_3)) else (registrarref04_May.l0 k3 y183 false (wrap64 (x7_3 + 1)) a0_0 a0_1 l0_2 l0_3)) = some r := by first | (rw [hy183]; with_reducible exact H) | (have H2_ := (Option.bind_some _ _).symm.trans H; rw [hy183]; with_reducible exact H2_) | (have H2_ := (Option.bind_some _ _).symm.trans H; with_reducible exact H2_) | with_reducible exact H | (rw [hy183]; exact H) | exact H
                          have Ny183 := Aside0.mk hy183
                          clear hy183
                          by_cases c24 : x6_3 = true
                          · subst c24
                            have H1 : (if ((rd_T35 l0_3 x7_3).f1) ≥ (-1099511627776) then (registrarref04_May.l0 k3 y183 (decide (((rd_T35 l0_3 x7_3).f1) ≤ 1099511627776)) (wrap64 (x7_3 + 1)) a0_0 a0_1 l0_2 l0_3) else (registrarref04_May.l0 k3 y183 false (wrap64 (x7_3 + 1)) a0_0 a0_1 l0_2 l0_3)) = some r := by rw [if_pos rfl] at H; exact H
                            clear H
                            have H := H1
                            clear H1
                            by_cases c25 : ((rd_T35 l0_3 x7_3).f1) ≥ (-1099511627776)
                            · rw [if_pos c25] at H
                              have c25b0 : decide ((-1099511627776) ≤ ((rd_T35 l0_3 x7_3).f1)) = true := decide_eq_true c25
                              clear c25
                              have H' := Aside0.mk H
                              clear H
                              have hcz26_0 : wr.cell? ⟨gb174, 0, none⟩ = some (.string a0_0) := (blk_cell BK174.out 0).trans rfl
                              have hcz26_1 : wr.cell? ⟨gb174, 1, none⟩ = some (.string a0_1) := (blk_cell BK174.out 1).trans rfl
                              have hcz26_2 : wr.cell? ⟨gb174, 2, none⟩ = some (.slice A0_2 l0_2.length c0_2) := (blk_cell BK174.out 2).trans rfl
                              have hcz26_3 : wr.cell? ⟨gb174, 3, none⟩ = some (.slice A0_3 l0_3.length c0_3) := (blk_cell BK174.out 3).trans rfl
                              have hfz26_0 := blk_frozen BK174.out 0
                              have hfz26_1 := blk_frozen BK174.out 1
                              have hfz26_2 := blk_frozen BK174.out 2
                              have hfz26_3 := blk_frozen BK174.out 3
                              have p180 : 0 ≤ (x7_3 : Int) := of_decide_eq_true (by first | (with_reducible assumption) | assumption)
                              have q180 : x7_3 < (l0_3.length : Int) := of_decide_eq_true (by first | (with_reducible assumption) | assumption)
                              obtain ⟨ad180, e180, hx180_0, hx180_1⟩ := at_T35 HR0_3.out x7_3 p180 q180
                              cases e180
                              replace hx180_0 := (HB.out.cell (World.block_lt_of_cell? w _ hx180_0)).trans hx180_0
                              replace hx180_1 := (HB.out.cell (World.block_lt_of_cell? w _ hx180_1)).trans hx180_1
                              replace p180 := eq_true p180
                              replace q180 := eq_true q180
                              go_wp2_with (first | ((with_reducible refine gate_callee (f := 44) rfl ?_); refine goesL_ (some 48) rfl rfl Try.func44 (by kernel_rfl) rfl #[.string ((rd_T35 l0_3 x7_3).f0)] rfl (by (try simp only [List.map_toArray, List.map_cons, List.map_nil]); first | done | rfl | (simp only [List.length_drop, List.length_take]; rfl)) ?_; (with_reducible refine (registrarref03_MayG.calls ((rd_T35 l0_3 x7_3).f0) true _ A21.out).mono ?_); rintro e w27 ⟨rfl, hb⟩; refine ⟨_, rfl, ?_⟩; have n0_ := Aside0.mk (Kd.R_below (by (with_reducible repeat (first | apply Kd.R_alloc | apply Kd.R_drewN | apply Kd.R_drew)); exact HO_5.out) hb); have n1_ := Aside0.mk (blk_below (g := gb174) (o := .cells #[.string a0_0, .string a0_1, .slice A0_2 l0_2.length c0_2, .slice (some ad180) l0_3.length c0_3] 26 (0, 0)) (by (with_reducible repeat (first | refine blk_drewN ?_ _ | refine blk_drew ?_ | refine blk_alloc ?_ _)); exact BK174.out) hb); have n2_ := Aside0.mk (below_step (by repeat (first | (with_reducible first | exact HB.out | apply below_alloc | apply pw_below_drewN | apply below_drew1 | refine below_set ?_ GE174.out) | exact HB.out)) hb); clear HO_5; clear BK174; clear HB; have HO_5 := n0_; have BK174 := n1_; have HB := n2_; clear n0_ n1_ n2_; (try clear hb); (try clear hb2); (try clear hk); (try clear hi); have hcz28_0 : w27.cell? ⟨gb174, 0, none⟩ = some (.string a0_0) := (blk_cell BK174.out 0).trans rfl; have hcz28_1 : w27.cell? ⟨gb174, 1, none⟩ = some (.string a0_1) := (blk_cell BK174.out 1).trans rfl; have hcz28_2 : w27.cell? ⟨gb174, 2, none⟩ = some (.slice A0_2 l0_2.length c0_2) := (blk_cell BK174.out 2).trans rfl; have hcz28_3 : w27.cell? ⟨gb174, 3, none⟩ = some (.slice (some ad180) l0_3.length c0_3) := (blk_cell BK174.out 3).trans rfl; have hfz28_0 := blk_frozen BK174.out 0; have hfz28_1 := blk_frozen BK174.out 1; have hfz28_2 := blk_frozen BK174.out 2; have hfz28_3 := blk_frozen BK174.out 3; have p182 : 0 ≤ (x7_3 : Int) := of_decide_eq_true (by first | (with_reducible assumption) | assumption); have q182 : x7_3 < (l0_3.length : Int) := of_decide_eq_true (by first | (with_reducible assumption) | assumption); obtain ⟨ad182, e182, hx182_0, hx182_1⟩ := at_T35 HR0_3.out x7_3 p182 q182; obtain rfl : ad180 = ad182 := (by injection e182); replace hx182_0 := (HB.out.cell (World.block_lt_of_cell? w _ hx182_0)).trans hx182_0; replace hx182_1 := (HB.out.cell (World.block_lt_of_cell? w _ hx182_1)).trans hx182_1; replace p182 := eq_true p182; replace q182 := eq_true q182) | ((with_reducible refine gate_builtin (b := .append) (xs := #[.tmp 51, .tmp 58]) rfl ?_); (try (refine gate_guard (by rfl) ?_; dsimp only)); at_builtin; refine Kd.R_append Kd.string (w0 := w) w.heap.size rfl (.tmp 51) (.tmp 58) 23 9 (.string ⟨#[]⟩) 16 rfl Try.underlying23 info9 rfl (by decide) (by omega) u5 x5_3 ((rd_T35 l0_3 x7_3).f0) [.string ((rd_T35 l0_3 x7_3).f0)] (fun _ => True) (fun _ => False) rfl rfl ?aP (fun _ hk => hk.elim) ?aF ?aO ?aB ?aS ?aL ?_; (case aP => exact rfl); (case aB => exact (by repeat (first | (with_reducible first | exact HB.out | apply below_alloc | apply pw_below_drewN | apply below_drew1 | refine below_set ?_ GE174.out) | exact HB.out))); (case aF => exact (fun _ _ => trivial)); (case aO => exact (by (with_reducible repeat (first | apply Kd.R_alloc | apply Kd.R_drewN | apply Kd.R_drew)); exact HO_5.out)); (case aS => exact (below_size (by repeat (first | (with_reducible first | exact HB.out | apply below_alloc | apply pw_below_drewN | apply below_drew1 | refine below_set ?_ GE174.out) | exact HB.out)))); (case aL => have := LMc23.out; omega); intro v184 w29 ho hb hg hat; rw [← Ny183.out] at ho; have n0_ := Aside0.mk (blk_grown (g := gb174) (o := .cells #[.string a0_0, .string a0_1, .slice A0_2 l0_2.length c0_2, .slice (some ad180) l0_3.length c0_3] 26 (0, 0)) (by (with_reducible repeat (first | refine blk_drewN ?_ _ | refine blk_drew ?_ | refine blk_alloc ?_ _)); exact BK174.out) hg (Kd.R_ne HO_5.out BK174.out (by decide))); have n1_ := Aside0.mk (hb); have n2_ := Aside0.mk (ho); clear BK174; clear HB; clear HO_5; have BK174 := n0_; have HB := n1_; have HO185 := n2_; clear n0_ n1_ n2_; clear ho hb hg hat; have hcz30_0 : w29.cell? ⟨gb174, 0, none⟩ = some (.string a0_0) := (blk_cell BK174.out 0).trans rfl; have hcz30_1 : w29.cell? ⟨gb174, 1, none⟩ = some (.string a0_1) := (blk_cell BK174.out 1).trans rfl; have hcz30_2 : w29.cell? ⟨gb174, 2, none⟩ = some (.slice A0_2 l0_2.length c0_2) := (blk_cell BK174.out 2).trans rfl; have hcz30_3 : w29.cell? ⟨gb174, 3, none⟩ = some (.slice (some ad180) l0_3.length c0_3) := (blk_cell BK174.out 3).trans rfl; have hfz30_0 := blk_frozen BK174.out 0; have hfz30_1 := blk_frozen BK174.out 1; have hfz30_2 := blk_frozen BK174.out 2; have hfz30_3 := blk_frozen BK174.out 3; have p186 : 0 ≤ (x7_3 : Int) := of_decide_eq_true (by first | (with_reducible assumption) | assumption); have q186 : x7_3 < (l0_3.length : Int) := of_decide_eq_true (by first | (with_reducible assumption) | assumption); obtain ⟨ad186, e186, hx186_0, hx186_1⟩ := at_T35 HR0_3.out x7_3 p186 q186; obtain rfl : ad180 = ad186 := (by injection e186); replace hx186_0 := (HB.out.cell (World.block_lt_of_cell? w _ hx186_0)).trans hx186_0; replace hx186_1 := (HB.out.cell (World.block_lt_of_cell? w _ hx186_1)).trans hx186_1; replace p186 := eq_true p186; replace q186 := eq_true q186; have p187 : 0 ≤ (x7_3 : Int) := of_decide_eq_true (by first | (with_reducible assumption) | assumption); have q187 : x7_3 < (l0_3.length : Int) := of_decide_eq_true (by first | (with_reducible assumption) | assumption); obtain ⟨ad187, e187, hx187_0, hx187_1⟩ := at_T35 HR0_3.out x7_3 p187 q187; obtain rfl : ad180 = ad187 := (by injection e187); replace hx187_0 := (HB.out.cell (World.block_lt_of_cell? w _ hx187_0)).trans hx187_0; replace hx187_1 := (HB.out.cell (World.block_lt_of_cell? w _ hx187_1)).trans hx187_1; replace p187 := eq_true p187; replace q187 := eq_true q187))
                              go_roundg k3
                              case measure => have := HJ3.out; have := HJ11.out; have := HK3.out; omega
                              case rel => exact ⟨(y183), (decide (((rd_T35 l0_3 x7_3).f1) ≤ 1099511627776)), (wrap64 (x7_3 + 1)), (by first | rfl | (simp; done) | (simp [*]; done)), (by first | rfl | (simp; done) | (simp [*]; done)), H', ⟨by have := HJ3.out; have := HJ11.out; have := HK3.out; omega⟩, ⟨by (with_reducible repeat (first | apply Kd.R_alloc | apply Kd.R_drewN | apply Kd.R_drew)); exact HO185.out⟩, ⟨by (with_reducible repeat (first | refine blk_drewN ?_ _ | refine blk_drew ?_ | refine blk_alloc ?_ _)); exact BK174.out⟩, ⟨by repeat (first | (with_reducible first | exact HB.out | apply below_alloc | apply pw_below_drewN | apply below_drew1 | refine below_set ?_ GE174.out) | exact HB.out)⟩⟩
                            · rw [if_neg c25] at H
                              have c25b0 : decide ((-1099511627776) ≤ ((rd_T35 l0_3 x7_3).f1)) = false := decide_eq_false c25
                              clear c25
                              have H' := Aside0.mk H
                              clear H
                              have hcz31_0 : wr.cell? ⟨gb174, 0, none⟩ = some (.string a0_0) := (blk_cell BK174.out 0).trans rfl
                              have hcz31_1 : wr.cell? ⟨gb174, 1, none⟩ = some (.string a0_1) := (blk_cell BK174.out 1).trans rfl
                              have hcz31_2 : wr.cell? ⟨gb174, 2, none⟩ = some (.slice A0_2 l0_2.length c0_2) := (blk_cell BK174.out 2).trans rfl
                              have hcz31_3 : wr.cell? ⟨gb174, 3, none⟩ = some (.slice A0_3 l0_3.length c0_3) := (blk_cell BK174.out 3).trans rfl
                              have hfz31_0 := blk_frozen BK174.out 0
                              have hfz31_1 := blk_frozen BK174.out 1
                              have hfz31_2 := blk_frozen BK174.out 2
                              have hfz31_3 := blk_frozen BK174.out 3
                              have p180 : 0 ≤ (x7_3 : Int) := of_decide_eq_true (by first | (with_reducible assumption) | assumption)
                              have q180 : x7_3 < (l0_3.length : Int) := of_decide_eq_true (by first | (with_reducible assumption) | assumption)
                              obtain ⟨ad180, e180, hx180_0, hx180_1⟩ := at_T35 HR0_3.out x7_3 p180 q180
                              cases e180
                              replace hx180_0 := (HB.out.cell (World.block_lt_of_cell? w _ hx180_0)).trans hx180_0
                              replace hx180_1 := (HB.out.cell (World.block_lt_of_cell? w _ hx180_1)).trans hx180_1
                              replace p180 := eq_true p180
                              replace q180 := eq_true q180
                              go_wp2_with (first | ((with_reducible refine gate_callee (f := 44) rfl ?_); refine goesL_ (some 48) rfl rfl Try.func44 (by kernel_rfl) rfl #[.string ((rd_T35 l0_3 x7_3).f0)] rfl (by (try simp only [List.map_toArray, List.map_cons, List.map_nil]); first | done | rfl | (simp only [List.length_drop, List.length_take]; rfl)) ?_; (with_reducible refine (registrarref03_MayG.calls ((rd_T35 l0_3 x7_3).f0) true _ A21.out).mono ?_); rintro e w32 ⟨rfl, hb⟩; refine ⟨_, rfl, ?_⟩; have n0_ := Aside0.mk (Kd.R_below (by (with_reducible repeat (first | apply Kd.R_alloc | apply Kd.R_drewN | apply Kd.R_drew)); exact HO_5.out) hb); have n1_ := Aside0.mk (blk_below (g := gb174) (o := .cells #[.string a0_0, .string a0_1, .slice A0_2 l0_2.length c0_2, .slice (some ad180) l0_3.length c0_3] 26 (0, 0)) (by (with_reducible repeat (first | refine blk_drewN ?_ _ | refine blk_drew ?_ | refine blk_alloc ?_ _)); exact BK174.out) hb); have n2_ := Aside0.mk (below_step (by repeat (first | (with_reducible first | exact HB.out | apply below_alloc | apply pw_below_drewN | apply below_drew1 | refine below_set ?_ GE174.out) | exact HB.out)) hb); clear HO_5; clear BK174; clear HB; have HO_5 := n0_; have BK174 := n1_; have HB := n2_; clear n0_ n1_ n2_; (try clear hb); (try clear hb2); (try clear hk); (try clear hi); have hcz33_0 : w32.cell? ⟨gb174, 0, none⟩ = some (.string a0_0) := (blk_cell BK174.out 0).trans rfl; have hcz33_1 : w32.cell? ⟨gb174, 1, none⟩ = some (.string a0_1) := (blk_cell BK174.out 1).trans rfl; have hcz33_2 : w32.cell? ⟨gb174, 2, none⟩ = some (.slice A0_2 l0_2.length c0_2) := (blk_cell BK174.out 2).trans rfl; have hcz33_3 : w32.cell? ⟨gb174, 3, none⟩ = some (.slice (some ad180) l0_3.length c0_3) := (blk_cell BK174.out 3).trans rfl; have hfz33_0 := blk_frozen BK174.out 0; have hfz33_1 := blk_frozen BK174.out 1; have hfz33_2 := blk_frozen BK174.out 2; have hfz33_3 := blk_frozen BK174.out 3; have p182 : 0 ≤ (x7_3 : Int) := of_decide_eq_true (by first | (with_reducible assumption) | assumption); have q182 : x7_3 < (l0_3.length : Int) := of_decide_eq_true (by first | (with_reducible assumption) | assumption); obtain ⟨ad182, e182, hx182_0, hx182_1⟩ := at_T35 HR0_3.out x7_3 p182 q182; obtain rfl : ad180 = ad182 := (by injection e182); replace hx182_0 := (HB.out.cell (World.block_lt_of_cell? w _ hx182_0)).trans hx182_0; replace hx182_1 := (HB.out.cell (World.block_lt_of_cell? w _ hx182_1)).trans hx182_1; replace p182 := eq_true p182; replace q182 := eq_true q182) | ((with_reducible refine gate_builtin (b := .append) (xs := #[.tmp 51, .tmp 58]) rfl ?_); (try (refine gate_guard (by rfl) ?_; dsimp only)); at_builtin; refine Kd.R_append Kd.string (w0 := w) w.heap.size rfl (.tmp 51) (.tmp 58) 23 9 (.string ⟨#[]⟩) 16 rfl Try.underlying23 info9 rfl (by decide) (by omega) u5 x5_3 ((rd_T35 l0_3 x7_3).f0) [.string ((rd_T35 l0_3 x7_3).f0)] (fun _ => True) (fun _ => False) rfl rfl ?aP (fun _ hk => hk.elim) ?aF ?aO ?aB ?aS ?aL ?_; (case aP => exact rfl); (case aB => exact (by repeat (first | (with_reducible first | exact HB.out | apply below_alloc | apply pw_below_drewN | apply below_drew1 | refine below_set ?_ GE174.out) | exact HB.out))); (case aF => exact (fun _ _ => trivial)); (case aO => exact (by (with_reducible repeat (first | apply Kd.R_alloc | apply Kd.R_drewN | apply Kd.R_drew)); exact HO_5.out)); (case aS => exact (below_size (by repeat (first | (with_reducible first | exact HB.out | apply below_alloc | apply pw_below_drewN | apply below_drew1 | refine below_set ?_ GE174.out) | exact HB.out)))); (case aL => have := LMc23.out; omega); intro v184 w34 ho hb hg hat; rw [← Ny183.out] at ho; have n0_ := Aside0.mk (blk_grown (g := gb174) (o := .cells #[.string a0_0, .string a0_1, .slice A0_2 l0_2.length c0_2, .slice (some ad180) l0_3.length c0_3] 26 (0, 0)) (by (with_reducible repeat (first | refine blk_drewN ?_ _ | refine blk_drew ?_ | refine blk_alloc ?_ _)); exact BK174.out) hg (Kd.R_ne HO_5.out BK174.out (by decide))); have n1_ := Aside0.mk (hb); have n2_ := Aside0.mk (ho); clear BK174; clear HB; clear HO_5; have BK174 := n0_; have HB := n1_; have HO185 := n2_; clear n0_ n1_ n2_; clear ho hb hg hat; have hcz35_0 : w34.cell? ⟨gb174, 0, none⟩ = some (.string a0_0) := (blk_cell BK174.out 0).trans rfl; have hcz35_1 : w34.cell? ⟨gb174, 1, none⟩ = some (.string a0_1) := (blk_cell BK174.out 1).trans rfl; have hcz35_2 : w34.cell? ⟨gb174, 2, none⟩ = some (.slice A0_2 l0_2.length c0_2) := (blk_cell BK174.out 2).trans rfl; have hcz35_3 : w34.cell? ⟨gb174, 3, none⟩ = some (.slice (some ad180) l0_3.length c0_3) := (blk_cell BK174.out 3).trans rfl; have hfz35_0 := blk_frozen BK174.out 0; have hfz35_1 := blk_frozen BK174.out 1; have hfz35_2 := blk_frozen BK174.out 2; have hfz35_3 := blk_frozen BK174.out 3; have p186 : 0 ≤ (x7_3 : Int) := of_decide_eq_true (by first | (with_reducible assumption) | assumption); have q186 : x7_3 < (l0_3.length : Int) := of_decide_eq_true (by first | (with_reducible assumption) | assumption); obtain ⟨ad186, e186, hx186_0, hx186_1⟩ := at_T35 HR0_3.out x7_3 p186 q186; obtain rfl : ad180 = ad186 := (by injection e186); replace hx186_0 := (HB.out.cell (World.block_lt_of_cell? w _ hx186_0)).trans hx186_0; replace hx186_1 := (HB.out.cell (World.block_lt_of_cell? w _ hx186_1)).trans hx186_1; replace p186 := eq_true p186; replace q186 := eq_true q186))
                              go_roundg k3
                              case measure => have := HJ3.out; have := HJ11.out; have := HK3.out; omega
                              case rel => exact ⟨(y183), (false), (wrap64 (x7_3 + 1)), (by first | rfl | (simp; done) | (simp [*]; done)), (by first | rfl | (simp; done) | (simp [*]; done)), H', ⟨by have := HJ3.out; have := HJ11.out; have := HK3.out; omega⟩, ⟨by (with_reducible repeat (first | apply Kd.R_alloc | apply Kd.R_drewN | apply Kd.R_drew)); exact HO185.out⟩, ⟨by (with_reducible repeat (first | refine blk_drewN ?_ _ | refine blk_drew ?_ | refine blk_alloc ?_ _)); exact BK174.out⟩, ⟨by repeat (first | (with_reducible first | exact HB.out | apply below_alloc | apply pw_below_drewN | apply below_drew1 | refine below_set ?_ GE174.out) | exact HB.out)⟩⟩
                          · replace c24 := Bool.eq_false_iff.mpr c24
                            subst c24
                            have H1 : (registrarref04_May.l0 k3 y183 false (wrap64 (x7_3 + 1)) a0_0 a0_1 l0_2 l0_3) = some r := by rw [if_neg (show ¬ (false = true) by decide)] at H; exact H
                            clear H
                            have H := H1
                            clear H1
                            have H' := Aside0.mk H
                            clear H
                            have hcz36_0 : wr.cell? ⟨gb174, 0, none⟩ = some (.string a0_0) := (blk_cell BK174.out 0).trans rfl
                            have hcz36_1 : wr.cell? ⟨gb174, 1, none⟩ = some (.string a0_1) := (blk_cell BK174.out 1).trans rfl
                            have hcz36_2 : wr.cell? ⟨gb174, 2, none⟩ = some (.slice A0_2 l0_2.length c0_2) := (blk_cell BK174.out 2).trans rfl
                            have hcz36_3 : wr.cell? ⟨gb174, 3, none⟩ = some (.slice A0_3 l0_3.length c0_3) := (blk_cell BK174.out 3).trans rfl
                            have hfz36_0 := blk_frozen BK174.out 0
                            have hfz36_1 := blk_frozen BK174.out 1
                            have hfz36_2 := blk_frozen BK174.out 2
                            have hfz36_3 := blk_frozen BK174.out 3
                            have p180 : 0 ≤ (x7_3 : Int) := of_decide_eq_true (by first | (with_reducible assumption) | assumption)
                            have q180 : x7_3 < (l0_3.length : Int) := of_decide_eq_true (by first | (with_reducible assumption) | assumption)
                            obtain ⟨ad180, e180, hx180_0, hx180_1⟩ := at_T35 HR0_3.out x7_3 p180 q180
                            cases e180
                            replace hx180_0 := (HB.out.cell (World.block_lt_of_cell? w _ hx180_0)).trans hx180_0
                            replace hx180_1 := (HB.out.cell (World.block_lt_of_cell? w _ hx180_1)).trans hx180_1
                            replace p180 := eq_true p180
                            replace q180 := eq_true q180
                            go_wp2_with (first | ((with_reducible refine gate_callee (f := 44) rfl ?_); refine goesL_ (some 48) rfl rfl Try.func44 (by kernel_rfl) rfl #[.string ((rd_T35 l0_3 x7_3).f0)] rfl (by (try simp only [List.map_toArray, List.map_cons, List.map_nil]); first | done | rfl | (simp only [List.length_drop, List.length_take]; rfl)) ?_; (with_reducible refine (registrarref03_MayG.calls ((rd_T35 l0_3 x7_3).f0) true _ A21.out).mono ?_); rintro e w37 ⟨rfl, hb⟩; refine ⟨_, rfl, ?_⟩; have n0_ := Aside0.mk (Kd.R_below (by (with_reducible repeat (first | apply Kd.R_alloc | apply Kd.R_drewN | apply Kd.R_drew)); exact HO_5.out) hb); have n1_ := Aside0.mk (blk_below (g := gb174) (o := .cells #[.string a0_0, .string a0_1, .slice A0_2 l0_2.length c0_2, .slice (some ad180) l0_3.length c0_3] 26 (0, 0)) (by (with_reducible repeat (first | refine blk_drewN ?_ _ | refine blk_drew ?_ | refine blk_alloc ?_ _)); exact BK174.out) hb); have n2_ := Aside0.mk (below_step (by repeat (first | (with_reducible first | exact HB.out | apply below_alloc | apply pw_below_drewN | apply below_drew1 | refine below_set ?_ GE174.out) | exact HB.out)) hb); clear HO_5; clear BK174; clear HB; have HO_5 := n0_; have BK174 := n1_; have HB := n2_; clear n0_ n1_ n2_; (try clear hb); (try clear hb2); (try clear hk); (try clear hi); have hcz38_0 : w37.cell? ⟨gb174, 0, none⟩ = some (.string a0_0) := (blk_cell BK174.out 0).trans rfl; have hcz38_1 : w37.cell? ⟨gb174, 1, none⟩ = some (.string a0_1) := (blk_cell BK174.out 1).trans rfl; have hcz38_2 : w37.cell? ⟨gb174, 2, none⟩ = some (.slice A0_2 l0_2.length c0_2) := (blk_cell BK174.out 2).trans rfl; have hcz38_3 : w37.cell? ⟨gb174, 3, none⟩ = some (.slice (some ad180) l0_3.length c0_3) := (blk_cell BK174.out 3).trans rfl; have hfz38_0 := blk_frozen BK174.out 0; have hfz38_1 := blk_frozen BK174.out 1; have hfz38_2 := blk_frozen BK174.out 2; have hfz38_3 := blk_frozen BK174.out 3; have p182 : 0 ≤ (x7_3 : Int) := of_decide_eq_true (by first | (with_reducible assumption) | assumption); have q182 : x7_3 < (l0_3.length : Int) := of_decide_eq_true (by first | (with_reducible assumption) | assumption); obtain ⟨ad182, e182, hx182_0, hx182_1⟩ := at_T35 HR0_3.out x7_3 p182 q182; obtain rfl : ad180 = ad182 := (by injection e182); replace hx182_0 := (HB.out.cell (World.block_lt_of_cell? w _ hx182_0)).trans hx182_0; replace hx182_1 := (HB.out.cell (World.block_lt_of_cell? w _ hx182_1)).trans hx182_1; replace p182 := eq_true p182; replace q182 := eq_true q182) | ((with_reducible refine gate_builtin (b := .append) (xs := #[.tmp 51, .tmp 58]) rfl ?_); (try (refine gate_guard (by rfl) ?_; dsimp only)); at_builtin; refine Kd.R_append Kd.string (w0 := w) w.heap.size rfl (.tmp 51) (.tmp 58) 23 9 (.string ⟨#[]⟩) 16 rfl Try.underlying23 info9 rfl (by decide) (by omega) u5 x5_3 ((rd_T35 l0_3 x7_3).f0) [.string ((rd_T35 l0_3 x7_3).f0)] (fun _ => True) (fun _ => False) rfl rfl ?aP (fun _ hk => hk.elim) ?aF ?aO ?aB ?aS ?aL ?_; (case aP => exact rfl); (case aB => exact (by repeat (first | (with_reducible first | exact HB.out | apply below_alloc | apply pw_below_drewN | apply below_drew1 | refine below_set ?_ GE174.out) | exact HB.out))); (case aF => exact (fun _ _ => trivial)); (case aO => exact (by (with_reducible repeat (first | apply Kd.R_alloc | apply Kd.R_drewN | apply Kd.R_drew)); exact HO_5.out)); (case aS => exact (below_size (by repeat (first | (with_reducible first | exact HB.out | apply below_alloc | apply pw_below_drewN | apply below_drew1 | refine below_set ?_ GE174.out) | exact HB.out)))); (case aL => have := LMc23.out; omega); intro v184 w39 ho hb hg hat; rw [← Ny183.out] at ho; have n0_ := Aside0.mk (blk_grown (g := gb174) (o := .cells #[.string a0_0, .string a0_1, .slice A0_2 l0_2.length c0_2, .slice (some ad180) l0_3.length c0_3] 26 (0, 0)) (by (with_reducible repeat (first | refine blk_drewN ?_ _ | refine blk_drew ?_ | refine blk_alloc ?_ _)); exact BK174.out) hg (Kd.R_ne HO_5.out BK174.out (by decide))); have n1_ := Aside0.mk (hb); have n2_ := Aside0.mk (ho); clear BK174; clear HB; clear HO_5; have BK174 := n0_; have HB := n1_; have HO185 := n2_; clear n0_ n1_ n2_; clear ho hb hg hat))
                            go_roundg k3
                            case measure => have := HJ3.out; have := HJ11.out; have := HK3.out; omega
                            case rel => exact ⟨(y183), (false), (wrap64 (x7_3 + 1)), (by first | rfl | (simp; done) | (simp [*]; done)), (by first | rfl | (simp; done) | (simp [*]; done)), H', ⟨by have := HJ3.out; have := HJ11.out; have := HK3.out; omega⟩, ⟨by (with_reducible repeat (first | apply Kd.R_alloc | apply Kd.R_drewN | apply Kd.R_drew)); exact HO185.out⟩, ⟨by (with_reducible repeat (first | refine blk_drewN ?_ _ | refine blk_drew ?_ | refine blk_alloc ?_ _)); exact BK174.out⟩, ⟨by repeat (first | (with_reducible first | exact HB.out | apply below_alloc | apply pw_below_drewN | apply below_drew1 | refine below_set ?_ GE174.out) | exact HB.out)⟩⟩
                        · rw [if_neg c23] at H
                          exact absurd H (by simp)
                      · replace c22 := Bool.eq_false_iff.mpr c22
                        subst c22
                        have H1 : (some 5) = some r := by rw [if_neg (show ¬ (false = true) by decide)] at H; exact H
                        clear H
                        have H := H1
                        clear H1
                        obtain rfl := Option.some.inj H
                        have hcz40_0 : wr.cell? ⟨gb174, 0, none⟩ = some (.string a0_0) := (blk_cell BK174.out 0).trans rfl
                        have hcz40_1 : wr.cell? ⟨gb174, 1, none⟩ = some (.string a0_1) := (blk_cell BK174.out 1).trans rfl
                        have hcz40_2 : wr.cell? ⟨gb174, 2, none⟩ = some (.slice A0_2 l0_2.length c0_2) := (blk_cell BK174.out 2).trans rfl
                        have hcz40_3 : wr.cell? ⟨gb174, 3, none⟩ = some (.slice A0_3 l0_3.length c0_3) := (blk_cell BK174.out 3).trans rfl
                        have hfz40_0 := blk_frozen BK174.out 0
                        have hfz40_1 := blk_frozen BK174.out 1
                        have hfz40_2 := blk_frozen BK174.out 2
                        have hfz40_3 := blk_frozen BK174.out 3
                        have p180 : 0 ≤ (x7_3 : Int) := of_decide_eq_true (by first | (with_reducible assumption) | assumption)
                        have q180 : x7_3 < (l0_3.length : Int) := of_decide_eq_true (by first | (with_reducible assumption) | assumption)
                        obtain ⟨ad180, e180, hx180_0, hx180_1⟩ := at_T35 HR0_3.out x7_3 p180 q180
                        cases e180
                        replace hx180_0 := (HB.out.cell (World.block_lt_of_cell? w _ hx180_0)).trans hx180_0
                        replace hx180_1 := (HB.out.cell (World.block_lt_of_cell? w _ hx180_1)).trans hx180_1
                        replace p180 := eq_true p180
                        replace q180 := eq_true q180
                        go_wp2_with (first | ((with_reducible refine gate_callee (f := 44) rfl ?_); refine goesL_ (some 48) rfl rfl Try.func44 (by kernel_rfl) rfl #[.string ((rd_T35 l0_3 x7_3).f0)] rfl (by (try simp only [List.map_toArray, List.map_cons, List.map_nil]); first | done | rfl | (simp only [List.length_drop, List.length_take]; rfl)) ?_; (with_reducible refine (registrarref03_MayG.calls ((rd_T35 l0_3 x7_3).f0) false _ A21.out).mono ?_); rintro e w41 ⟨rfl, hb⟩; refine ⟨_, rfl, ?_⟩; have n0_ := Aside0.mk (Kd.R_below (by (with_reducible repeat (first | apply Kd.R_alloc | apply Kd.R_drewN | apply Kd.R_drew)); exact HO_5.out) hb); have n1_ := Aside0.mk (blk_below (g := gb174) (o := .cells #[.string a0_0, .string a0_1, .slice A0_2 l0_2.length c0_2, .slice (some ad180) l0_3.length c0_3] 26 (0, 0)) (by (with_reducible repeat (first | refine blk_drewN ?_ _ | refine blk_drew ?_ | refine blk_alloc ?_ _)); exact BK174.out) hb); have n2_ := Aside0.mk (below_step (by repeat (first | (with_reducible first | exact HB.out | apply below_alloc | apply pw_below_drewN | apply below_drew1 | refine below_set ?_ GE174.out) | exact HB.out)) hb); clear HO_5; clear BK174; clear HB; have HO_5 := n0_; have BK174 := n1_; have HB := n2_; clear n0_ n1_ n2_; (try clear hb); (try clear hb2); (try clear hk); (try clear hi)))
                        go_ret
                        exact ⟨by first | rfl | (simp [errW_none, errW_some] <;> rfl) | (simp [*, errW_none, errW_some] <;> rfl), by repeat (first | (with_reducible first | exact HB.out | apply below_alloc | apply pw_below_drewN | apply below_drew1 | refine below_set ?_ GE174.out) | exact HB.out)⟩
                    · rw [if_neg c20] at H
                      exact absurd H (by simp)
                  · rw [if_neg c19] at H
                    have c19b0 : decide (x7_3 < (l0_3.length : Int)) = false := decide_eq_false c19
                    clear c19
                    replace H := Option.bind_eq_some_iff.mp H
                    obtain ⟨t188, A420, H⟩ := H
                    replace H : (if t188 = true then ((registrarref04_RiseG.f l0_2).bind fun t189 => ((registrarref04_RiseG.f x5_3).bind fun t190 => (if x6_3 = true then (if t189 = true then (if t190 = true then (some 0) else (some 1)) else (some 1)) else (some 1)))) else (some 5)) = some r := H
                    have A42 := Aside0.mk A420
                    clear A420
                    by_cases c43 : t188 = true
                    · subst c43
                      have H1 : ((registrarref04_RiseG.f l0_2).bind fun t189 => ((registrarref04_RiseG.f x5_3).bind fun t190 => (if x6_3 = true then (if t189 = true then (if t190 = true then (some 0) else (some 1)) else (some 1)) else (some 1)))) = some r := by rw [if_pos rfl] at H; exact H
                      clear H
                      have H := H1
                      clear H1
                      replace H := Option.bind_eq_some_iff.mp H
                      obtain ⟨t189, A440, H⟩ := H
                      replace H : ((registrarref04_RiseG.f x5_3).bind fun t190 => (if x6_3 = true then (if t189 = true then (if t190 = true then (some 0) else (some 1)) else (some 1)) else (some 1))) = some r := H
                      have A44 := Aside0.mk A440
                      clear A440
                      replace H := Option.bind_eq_some_iff.mp H
                      obtain ⟨t190, A450, H⟩ := H
                      replace H : (if x6_3 = true then (if t189 = true then (if t190 = true then (some 0) else (some 1)) else (some 1)) else (some 1)) = some r := H
                      have A45 := Aside0.mk A450
                      clear A450
                      by_cases c46 : x6_3 = true
                      · subst c46
                        have H1 : (if t189 = true then (if t190 = true then (some 0) else (some 1)) else (some 1)) = some r := by rw [if_pos rfl] at H; exact H
                        clear H
                        have H := H1
                        clear H1
                        by_cases c47 : t189 = true
                        · subst c47
                          have H1 : (if t190 = true then (some 0) else (some 1)) = some r := by rw [if_pos rfl] at H; exact H
                          clear H
                          have H := H1
                          clear H1
                          by_cases c48 : t190 = true
                          · subst c48
                            have H1 : (some 0) = some r := by rw [if_pos rfl] at H; exact H
                            clear H
                            have H := H1
                            clear H1
                            obtain rfl := Option.some.inj H
                            have hcz49_0 : wr.cell? ⟨gb174, 0, none⟩ = some (.string a0_0) := (blk_cell BK174.out 0).trans rfl
                            have hcz49_1 : wr.cell? ⟨gb174, 1, none⟩ = some (.string a0_1) := (blk_cell BK174.out 1).trans rfl
                            have hcz49_2 : wr.cell? ⟨gb174, 2, none⟩ = some (.slice A0_2 l0_2.length c0_2) := (blk_cell BK174.out 2).trans rfl
                            have hcz49_3 : wr.cell? ⟨gb174, 3, none⟩ = some (.slice A0_3 l0_3.length c0_3) := (blk_cell BK174.out 3).trans rfl
                            have hfz49_0 := blk_frozen BK174.out 0
                            have hfz49_1 := blk_frozen BK174.out 1
                            have hfz49_2 := blk_frozen BK174.out 2
                            have hfz49_3 := blk_frozen BK174.out 3
                            go_wp2_with (first | ((with_reducible refine gate_callee (f := 45) rfl ?_); refine goesL_ (some 81) rfl rfl Try.func45 (by kernel_rfl) rfl #[.slice A0_2 l0_2.length c0_2] rfl (by (try simp only [List.map_toArray, List.map_cons, List.map_nil]); first | done | rfl | (simp only [List.length_drop, List.length_take]; rfl)) ?_; (with_reducible refine (registrarref04_tagsG.calls _ _ l0_2 true _ ?side1 ?side2 A42.out).mono ?_); (case side1 => repeat (first | exact (Kd.C_below HR0_2.out HB.out) | (with_reducible refine Kd.C_alloc ?_ _) | (with_reducible refine Kd.C_drewN ?_ _) | (with_reducible refine Kd.C_drew ?_))); (case side2 => exact HC0_2.out); rintro e w50 ⟨rfl, hb⟩; refine ⟨_, rfl, ?_⟩; have n0_ := Aside0.mk (Kd.R_below (by (with_reducible repeat (first | apply Kd.R_alloc | apply Kd.R_drewN | apply Kd.R_drew)); exact HO_5.out) hb); have n1_ := Aside0.mk (blk_below (g := gb174) (o := .cells #[.string a0_0, .string a0_1, .slice A0_2 l0_2.length c0_2, .slice A0_3 l0_3.length c0_3] 26 (0, 0)) (by (with_reducible repeat (first | refine blk_drewN ?_ _ | refine blk_drew ?_ | refine blk_alloc ?_ _)); exact BK174.out) hb); have n2_ := Aside0.mk (below_step (by repeat (first | (with_reducible first | exact HB.out | apply below_alloc | apply pw_below_drewN | apply below_drew1 | refine below_set ?_ GE174.out) | exact HB.out)) hb); clear HO_5; clear BK174; clear HB; have HO_5 := n0_; have BK174 := n1_; have HB := n2_; clear n0_ n1_ n2_; (try clear hb); (try clear hb2); (try clear hk); (try clear hi); have hcz51_0 : w50.cell? ⟨gb174, 0, none⟩ = some (.string a0_0) := (blk_cell BK174.out 0).trans rfl; have hcz51_1 : w50.cell? ⟨gb174, 1, none⟩ = some (.string a0_1) := (blk_cell BK174.out 1).trans rfl; have hcz51_2 : w50.cell? ⟨gb174, 2, none⟩ = some (.slice A0_2 l0_2.length c0_2) := (blk_cell BK174.out 2).trans rfl; have hcz51_3 : w50.cell? ⟨gb174, 3, none⟩ = some (.slice A0_3 l0_3.length c0_3) := (blk_cell BK174.out 3).trans rfl; have hfz51_0 := blk_frozen BK174.out 0; have hfz51_1 := blk_frozen BK174.out 1; have hfz51_2 := blk_frozen BK174.out 2; have hfz51_3 := blk_frozen BK174.out 3) | ((with_reducible refine gate_callee (f := 46) rfl ?_); refine goesL_ (some 86) rfl rfl Try.func46 (by kernel_rfl) rfl #[.slice A0_2 l0_2.length c0_2] rfl (by (try simp only [List.map_toArray, List.map_cons, List.map_nil]); first | done | rfl | (simp only [List.length_drop, List.length_take]; rfl)) ?_; (with_reducible refine (registrarref04_RiseG.calls _ _ l0_2 true _ ?side1 ?side2 A44.out).mono ?_); (case side1 => repeat (first | exact (Kd.C_below HR0_2.out HB.out) | (with_reducible refine Kd.C_alloc ?_ _) | (with_reducible refine Kd.C_drewN ?_ _) | (with_reducible refine Kd.C_drew ?_))); (case side2 => exact HC0_2.out); rintro e w' ⟨rfl, ⟨nd, rfl⟩⟩; refine ⟨_, rfl, ?_⟩; obtain ⟨Ao52, co52, eo52⟩ := Kd.R_slice HO_5.out; subst eo52) | ((with_reducible refine gate_callee (f := 46) rfl ?_); refine goesL_ (some 88) rfl rfl Try.func46 (by kernel_rfl) rfl #[.slice Ao52 x5_3.length co52] rfl (by (try simp only [List.map_toArray, List.map_cons, List.map_nil]); first | done | rfl | (simp only [List.length_drop, List.length_take]; rfl)) ?_; (with_reducible refine (registrarref04_RiseG.calls _ _ x5_3 true _ ?side1 ?side2 A45.out).mono ?_); (case side1 => repeat (first | exact (Kd.R_reads' HO_5.out).2.2 | (with_reducible refine Kd.C_alloc ?_ _) | (with_reducible refine Kd.C_drewN ?_ _) | (with_reducible refine Kd.C_drew ?_))); (case side2 => exact (Kd.R_reads' HO_5.out).2.1); rintro e w' ⟨rfl, ⟨nd, rfl⟩⟩; refine ⟨_, rfl, ?_⟩))
                            go_ret
                            exact ⟨by first | rfl | (simp [errW_none, errW_some] <;> rfl) | (simp [*, errW_none, errW_some] <;> rfl), by repeat (first | (with_reducible first | exact HB.out | apply below_alloc | apply pw_below_drewN | apply below_drew1 | refine below_set ?_ GE174.out) | exact HB.out)⟩
                          · replace c48 := Bool.eq_false_iff.mpr c48
                            subst c48
                            have H1 : (some 1) = some r := by rw [if_neg (show ¬ (false = true) by decide)] at H; exact H
                            clear H
                            have H := H1
                            clear H1
                            obtain rfl := Option.some.inj H
                            have hcz53_0 : wr.cell? ⟨gb174, 0, none⟩ = some (.string a0_0) := (blk_cell BK174.out 0).trans rfl
                            have hcz53_1 : wr.cell? ⟨gb174, 1, none⟩ = some (.string a0_1) := (blk_cell BK174.out 1).trans rfl
                            have hcz53_2 : wr.cell? ⟨gb174, 2, none⟩ = some (.slice A0_2 l0_2.length c0_2) := (blk_cell BK174.out 2).trans rfl
                            have hcz53_3 : wr.cell? ⟨gb174, 3, none⟩ = some (.slice A0_3 l0_3.length c0_3) := (blk_cell BK174.out 3).trans rfl
                            have hfz53_0 := blk_frozen BK174.out 0
                            have hfz53_1 := blk_frozen BK174.out 1
                            have hfz53_2 := blk_frozen BK174.out 2
                            have hfz53_3 := blk_frozen BK174.out 3
                            go_wp2_with (first | ((with_reducible refine gate_callee (f := 45) rfl ?_); refine goesL_ (some 81) rfl rfl Try.func45 (by kernel_rfl) rfl #[.slice A0_2 l0_2.length c0_2] rfl (by (try simp only [List.map_toArray, List.map_cons, List.map_nil]); first | done | rfl | (simp only [List.length_drop, List.length_take]; rfl)) ?_; (with_reducible refine (registrarref04_tagsG.calls _ _ l0_2 true _ ?side1 ?side2 A42.out).mono ?_); (case side1 => repeat (first | exact (Kd.C_below HR0_2.out HB.out) | (with_reducible refine Kd.C_alloc ?_ _) | (with_reducible refine Kd.C_drewN ?_ _) | (with_reducible refine Kd.C_drew ?_))); (case side2 => exact HC0_2.out); rintro e w54 ⟨rfl, hb⟩; refine ⟨_, rfl, ?_⟩; have n0_ := Aside0.mk (Kd.R_below (by (with_reducible repeat (first | apply Kd.R_alloc | apply Kd.R_drewN | apply Kd.R_drew)); exact HO_5.out) hb); have n1_ := Aside0.mk (blk_below (g := gb174) (o := .cells #[.string a0_0, .string a0_1, .slice A0_2 l0_2.length c0_2, .slice A0_3 l0_3.length c0_3] 26 (0, 0)) (by (with_reducible repeat (first | refine blk_drewN ?_ _ | refine blk_drew ?_ | refine blk_alloc ?_ _)); exact BK174.out) hb); have n2_ := Aside0.mk (below_step (by repeat (first | (with_reducible first | exact HB.out | apply below_alloc | apply pw_below_drewN | apply below_drew1 | refine below_set ?_ GE174.out) | exact HB.out)) hb); clear HO_5; clear BK174; clear HB; have HO_5 := n0_; have BK174 := n1_; have HB := n2_; clear n0_ n1_ n2_; (try clear hb); (try clear hb2); (try clear hk); (try clear hi); have hcz55_0 : w54.cell? ⟨gb174, 0, none⟩ = some (.string a0_0) := (blk_cell BK174.out 0).trans rfl; have hcz55_1 : w54.cell? ⟨gb174, 1, none⟩ = some (.string a0_1) := (blk_cell BK174.out 1).trans rfl; have hcz55_2 : w54.cell? ⟨gb174, 2, none⟩ = some (.slice A0_2 l0_2.length c0_2) := (blk_cell BK174.out 2).trans rfl; have hcz55_3 : w54.cell? ⟨gb174, 3, none⟩ = some (.slice A0_3 l0_3.length c0_3) := (blk_cell BK174.out 3).trans rfl; have hfz55_0 := blk_frozen BK174.out 0; have hfz55_1 := blk_frozen BK174.out 1; have hfz55_2 := blk_frozen BK174.out 2; have hfz55_3 := blk_frozen BK174.out 3) | ((with_reducible refine gate_callee (f := 46) rfl ?_); refine goesL_ (some 86) rfl rfl Try.func46 (by kernel_rfl) rfl #[.slice A0_2 l0_2.length c0_2] rfl (by (try simp only [List.map_toArray, List.map_cons, List.map_nil]); first | done | rfl | (simp only [List.length_drop, List.length_take]; rfl)) ?_; (with_reducible refine (registrarref04_RiseG.calls _ _ l0_2 true _ ?side1 ?side2 A44.out).mono ?_); (case side1 => repeat (first | exact (Kd.C_below HR0_2.out HB.out) | (with_reducible refine Kd.C_alloc ?_ _) | (with_reducible refine Kd.C_drewN ?_ _) | (with_reducible refine Kd.C_drew ?_))); (case side2 => exact HC0_2.out); rintro e w' ⟨rfl, ⟨nd, rfl⟩⟩; refine ⟨_, rfl, ?_⟩; obtain ⟨Ao56, co56, eo56⟩ := Kd.R_slice HO_5.out; subst eo56) | ((with_reducible refine gate_callee (f := 46) rfl ?_); refine goesL_ (some 88) rfl rfl Try.func46 (by kernel_rfl) rfl #[.slice Ao56 x5_3.length co56] rfl (by (try simp only [List.map_toArray, List.map_cons, List.map_nil]); first | done | rfl | (simp only [List.length_drop, List.length_take]; rfl)) ?_; (with_reducible refine (registrarref04_RiseG.calls _ _ x5_3 false _ ?side1 ?side2 A45.out).mono ?_); (case side1 => repeat (first | exact (Kd.R_reads' HO_5.out).2.2 | (with_reducible refine Kd.C_alloc ?_ _) | (with_reducible refine Kd.C_drewN ?_ _) | (with_reducible refine Kd.C_drew ?_))); (case side2 => exact (Kd.R_reads' HO_5.out).2.1); rintro e w' ⟨rfl, ⟨nd, rfl⟩⟩; refine ⟨_, rfl, ?_⟩))
                            go_ret
                            exact ⟨by first | rfl | (simp [errW_none, errW_some] <;> rfl) | (simp [*, errW_none, errW_some] <;> rfl), by repeat (first | (with_reducible first | exact HB.out | apply below_alloc | apply pw_below_drewN | apply below_drew1 | refine below_set ?_ GE174.out) | exact HB.out)⟩
                        · replace c47 := Bool.eq_false_iff.mpr c47
                          subst c47
                          have H1 : (some 1) = some r := by rw [if_neg (show ¬ (false = true) by decide)] at H; exact H
                          clear H
                          have H := H1
                          clear H1
                          obtain rfl := Option.some.inj H
                          have hcz57_0 : wr.cell? ⟨gb174, 0, none⟩ = some (.string a0_0) := (blk_cell BK174.out 0).trans rfl
                          have hcz57_1 : wr.cell? ⟨gb174, 1, none⟩ = some (.string a0_1) := (blk_cell BK174.out 1).trans rfl
                          have hcz57_2 : wr.cell? ⟨gb174, 2, none⟩ = some (.slice A0_2 l0_2.length c0_2) := (blk_cell BK174.out 2).trans rfl
                          have hcz57_3 : wr.cell? ⟨gb174, 3, none⟩ = some (.slice A0_3 l0_3.length c0_3) := (blk_cell BK174.out 3).trans rfl
                          have hfz57_0 := blk_frozen BK174.out 0
                          have hfz57_1 := blk_frozen BK174.out 1
                          have hfz57_2 := blk_frozen BK174.out 2
                          have hfz57_3 := blk_frozen BK174.out 3
                          go_wp2_with (first | ((with_reducible refine gate_callee (f := 45) rfl ?_); refine goesL_ (some 81) rfl rfl Try.func45 (by kernel_rfl) rfl #[.slice A0_2 l0_2.length c0_2] rfl (by (try simp only [List.map_toArray, List.map_cons, List.map_nil]); first | done | rfl | (simp only [List.length_drop, List.length_take]; rfl)) ?_; (with_reducible refine (registrarref04_tagsG.calls _ _ l0_2 true _ ?side1 ?side2 A42.out).mono ?_); (case side1 => repeat (first | exact (Kd.C_below HR0_2.out HB.out) | (with_reducible refine Kd.C_alloc ?_ _) | (with_reducible refine Kd.C_drewN ?_ _) | (with_reducible refine Kd.C_drew ?_))); (case side2 => exact HC0_2.out); rintro e w58 ⟨rfl, hb⟩; refine ⟨_, rfl, ?_⟩; have n0_ := Aside0.mk (Kd.R_below (by (with_reducible repeat (first | apply Kd.R_alloc | apply Kd.R_drewN | apply Kd.R_drew)); exact HO_5.out) hb); have n1_ := Aside0.mk (blk_below (g := gb174) (o := .cells #[.string a0_0, .string a0_1, .slice A0_2 l0_2.length c0_2, .slice A0_3 l0_3.length c0_3] 26 (0, 0)) (by (with_reducible repeat (first | refine blk_drewN ?_ _ | refine blk_drew ?_ | refine blk_alloc ?_ _)); exact BK174.out) hb); have n2_ := Aside0.mk (below_step (by repeat (first | (with_reducible first | exact HB.out | apply below_alloc | apply pw_below_drewN | apply below_drew1 | refine below_set ?_ GE174.out) | exact HB.out)) hb); clear HO_5; clear BK174; clear HB; have HO_5 := n0_; have BK174 := n1_; have HB := n2_; clear n0_ n1_ n2_; (try clear hb); (try clear hb2); (try clear hk); (try clear hi); have hcz59_0 : w58.cell? ⟨gb174, 0, none⟩ = some (.string a0_0) := (blk_cell BK174.out 0).trans rfl; have hcz59_1 : w58.cell? ⟨gb174, 1, none⟩ = some (.string a0_1) := (blk_cell BK174.out 1).trans rfl; have hcz59_2 : w58.cell? ⟨gb174, 2, none⟩ = some (.slice A0_2 l0_2.length c0_2) := (blk_cell BK174.out 2).trans rfl; have hcz59_3 : w58.cell? ⟨gb174, 3, none⟩ = some (.slice A0_3 l0_3.length c0_3) := (blk_cell BK174.out 3).trans rfl; have hfz59_0 := blk_frozen BK174.out 0; have hfz59_1 := blk_frozen BK174.out 1; have hfz59_2 := blk_frozen BK174.out 2; have hfz59_3 := blk_frozen BK174.out 3) | ((with_reducible refine gate_callee (f := 46) rfl ?_); refine goesL_ (some 86) rfl rfl Try.func46 (by kernel_rfl) rfl #[.slice A0_2 l0_2.length c0_2] rfl (by (try simp only [List.map_toArray, List.map_cons, List.map_nil]); first | done | rfl | (simp only [List.length_drop, List.length_take]; rfl)) ?_; (with_reducible refine (registrarref04_RiseG.calls _ _ l0_2 false _ ?side1 ?side2 A44.out).mono ?_); (case side1 => repeat (first | exact (Kd.C_below HR0_2.out HB.out) | (with_reducible refine Kd.C_alloc ?_ _) | (with_reducible refine Kd.C_drewN ?_ _) | (with_reducible refine Kd.C_drew ?_))); (case side2 => exact HC0_2.out); rintro e w' ⟨rfl, ⟨nd, rfl⟩⟩; refine ⟨_, rfl, ?_⟩; obtain ⟨Ao60, co60, eo60⟩ := Kd.R_slice HO_5.out; subst eo60) | ((with_reducible refine gate_callee (f := 46) rfl ?_); refine goesL_ (some 88) rfl rfl Try.func46 (by kernel_rfl) rfl #[.slice Ao60 x5_3.length co60] rfl (by (try simp only [List.map_toArray, List.map_cons, List.map_nil]); first | done | rfl | (simp only [List.length_drop, List.length_take]; rfl)) ?_; (with_reducible refine (registrarref04_RiseG.calls _ _ x5_3 t190 _ ?side1 ?side2 A45.out).mono ?_); (case side1 => repeat (first | exact (Kd.R_reads' HO_5.out).2.2 | (with_reducible refine Kd.C_alloc ?_ _) | (with_reducible refine Kd.C_drewN ?_ _) | (with_reducible refine Kd.C_drew ?_))); (case side2 => exact (Kd.R_reads' HO_5.out).2.1); rintro e w' ⟨rfl, ⟨nd, rfl⟩⟩; refine ⟨_, rfl, ?_⟩))
                          go_ret
                          exact ⟨by first | rfl | (simp [errW_none, errW_some] <;> rfl) | (simp [*, errW_none, errW_some] <;> rfl), by repeat (first | (with_reducible first | exact HB.out | apply below_alloc | apply pw_below_drewN | apply below_drew1 | refine below_set ?_ GE174.out) | exact HB.out)⟩
                      · replace c46 := Bool.eq_false_iff.mpr c46
                        subst c46
                        have H1 : (some 1) = some r := by rw [if_neg (show ¬ (false = true) by decide)] at H; exact H
                        clear H
                        have H := H1
                        clear H1
                        obtain rfl := Option.some.inj H
                        have hcz61_0 : wr.cell? ⟨gb174, 0, none⟩ = some (.string a0_0) := (blk_cell BK174.out 0).trans rfl
                        have hcz61_1 : wr.cell? ⟨gb174, 1, none⟩ = some (.string a0_1) := (blk_cell BK174.out 1).trans rfl
                        have hcz61_2 : wr.cell? ⟨gb174, 2, none⟩ = some (.slice A0_2 l0_2.length c0_2) := (blk_cell BK174.out 2).trans rfl
                        have hcz61_3 : wr.cell? ⟨gb174, 3, none⟩ = some (.slice A0_3 l0_3.length c0_3) := (blk_cell BK174.out 3).trans rfl
                        have hfz61_0 := blk_frozen BK174.out 0
                        have hfz61_1 := blk_frozen BK174.out 1
                        have hfz61_2 := blk_frozen BK174.out 2
                        have hfz61_3 := blk_frozen BK174.out 3
                        go_wp2_with (first | ((with_reducible refine gate_callee (f := 45) rfl ?_); refine goesL_ (some 81) rfl rfl Try.func45 (by kernel_rfl) rfl #[.slice A0_2 l0_2.length c0_2] rfl (by (try simp only [List.map_toArray, List.map_cons, List.map_nil]); first | done | rfl | (simp only [List.length_drop, List.length_take]; rfl)) ?_; (with_reducible refine (registrarref04_tagsG.calls _ _ l0_2 true _ ?side1 ?side2 A42.out).mono ?_); (case side1 => repeat (first | exact (Kd.C_below HR0_2.out HB.out) | (with_reducible refine Kd.C_alloc ?_ _) | (with_reducible refine Kd.C_drewN ?_ _) | (with_reducible refine Kd.C_drew ?_))); (case side2 => exact HC0_2.out); rintro e w62 ⟨rfl, hb⟩; refine ⟨_, rfl, ?_⟩; have n0_ := Aside0.mk (Kd.R_below (by (with_reducible repeat (first | apply Kd.R_alloc | apply Kd.R_drewN | apply Kd.R_drew)); exact HO_5.out) hb); have n1_ := Aside0.mk (blk_below (g := gb174) (o := .cells #[.string a0_0, .string a0_1, .slice A0_2 l0_2.length c0_2, .slice A0_3 l0_3.length c0_3] 26 (0, 0)) (by (with_reducible repeat (first | refine blk_drewN ?_ _ | refine blk_drew ?_ | refine blk_alloc ?_ _)); exact BK174.out) hb); have n2_ := Aside0.mk (below_step (by repeat (first | (with_reducible first | exact HB.out | apply below_alloc | apply pw_below_drewN | apply below_drew1 | refine below_set ?_ GE174.out) | exact HB.out)) hb); clear HO_5; clear BK174; clear HB; have HO_5 := n0_; have BK174 := n1_; have HB := n2_; clear n0_ n1_ n2_; (try clear hb); (try clear hb2); (try clear hk); (try clear hi); have hcz63_0 : w62.cell? ⟨gb174, 0, none⟩ = some (.string a0_0) := (blk_cell BK174.out 0).trans rfl; have hcz63_1 : w62.cell? ⟨gb174, 1, none⟩ = some (.string a0_1) := (blk_cell BK174.out 1).trans rfl; have hcz63_2 : w62.cell? ⟨gb174, 2, none⟩ = some (.slice A0_2 l0_2.length c0_2) := (blk_cell BK174.out 2).trans rfl; have hcz63_3 : w62.cell? ⟨gb174, 3, none⟩ = some (.slice A0_3 l0_3.length c0_3) := (blk_cell BK174.out 3).trans rfl; have hfz63_0 := blk_frozen BK174.out 0; have hfz63_1 := blk_frozen BK174.out 1; have hfz63_2 := blk_frozen BK174.out 2; have hfz63_3 := blk_frozen BK174.out 3) | ((with_reducible refine gate_callee (f := 46) rfl ?_); refine goesL_ (some 86) rfl rfl Try.func46 (by kernel_rfl) rfl #[.slice A0_2 l0_2.length c0_2] rfl (by (try simp only [List.map_toArray, List.map_cons, List.map_nil]); first | done | rfl | (simp only [List.length_drop, List.length_take]; rfl)) ?_; (with_reducible refine (registrarref04_RiseG.calls _ _ l0_2 t189 _ ?side1 ?side2 A44.out).mono ?_); (case side1 => repeat (first | exact (Kd.C_below HR0_2.out HB.out) | (with_reducible refine Kd.C_alloc ?_ _) | (with_reducible refine Kd.C_drewN ?_ _) | (with_reducible refine Kd.C_drew ?_))); (case side2 => exact HC0_2.out); rintro e w' ⟨rfl, ⟨nd, rfl⟩⟩; refine ⟨_, rfl, ?_⟩; obtain ⟨Ao64, co64, eo64⟩ := Kd.R_slice HO_5.out; subst eo64) | ((with_reducible refine gate_callee (f := 46) rfl ?_); refine goesL_ (some 88) rfl rfl Try.func46 (by kernel_rfl) rfl #[.slice Ao64 x5_3.length co64] rfl (by (try simp only [List.map_toArray, List.map_cons, List.map_nil]); first | done | rfl | (simp only [List.length_drop, List.length_take]; rfl)) ?_; (with_reducible refine (registrarref04_RiseG.calls _ _ x5_3 t190 _ ?side1 ?side2 A45.out).mono ?_); (case side1 => repeat (first | exact (Kd.R_reads' HO_5.out).2.2 | (with_reducible refine Kd.C_alloc ?_ _) | (with_reducible refine Kd.C_drewN ?_ _) | (with_reducible refine Kd.C_drew ?_))); (case side2 => exact (Kd.R_reads' HO_5.out).2.1); rintro e w' ⟨rfl, ⟨nd, rfl⟩⟩; refine ⟨_, rfl, ?_⟩))
                        go_ret
                        exact ⟨by first | rfl | (simp [errW_none, errW_some] <;> rfl) | (simp [*, errW_none, errW_some] <;> rfl), by repeat (first | (with_reducible first | exact HB.out | apply below_alloc | apply pw_below_drewN | apply below_drew1 | refine below_set ?_ GE174.out) | exact HB.out)⟩
                    · replace c43 := Bool.eq_false_iff.mpr c43
                      subst c43
                      have H1 : (some 5) = some r := by rw [if_neg (show ¬ (false = true) by decide)] at H; exact H
                      clear H
                      have H := H1
                      clear H1
                      obtain rfl := Option.some.inj H
                      have hcz65_0 : wr.cell? ⟨gb174, 0, none⟩ = some (.string a0_0) := (blk_cell BK174.out 0).trans rfl
                      have hcz65_1 : wr.cell? ⟨gb174, 1, none⟩ = some (.string a0_1) := (blk_cell BK174.out 1).trans rfl
                      have hcz65_2 : wr.cell? ⟨gb174, 2, none⟩ = some (.slice A0_2 l0_2.length c0_2) := (blk_cell BK174.out 2).trans rfl
                      have hcz65_3 : wr.cell? ⟨gb174, 3, none⟩ = some (.slice A0_3 l0_3.length c0_3) := (blk_cell BK174.out 3).trans rfl
                      have hfz65_0 := blk_frozen BK174.out 0
                      have hfz65_1 := blk_frozen BK174.out 1
                      have hfz65_2 := blk_frozen BK174.out 2
                      have hfz65_3 := blk_frozen BK174.out 3
                      go_wp2_with (first | ((with_reducible refine gate_callee (f := 45) rfl ?_); refine goesL_ (some 81) rfl rfl Try.func45 (by kernel_rfl) rfl #[.slice A0_2 l0_2.length c0_2] rfl (by (try simp only [List.map_toArray, List.map_cons, List.map_nil]); first | done | rfl | (simp only [List.length_drop, List.length_take]; rfl)) ?_; (with_reducible refine (registrarref04_tagsG.calls _ _ l0_2 false _ ?side1 ?side2 A42.out).mono ?_); (case side1 => repeat (first | exact (Kd.C_below HR0_2.out HB.out) | (with_reducible refine Kd.C_alloc ?_ _) | (with_reducible refine Kd.C_drewN ?_ _) | (with_reducible refine Kd.C_drew ?_))); (case side2 => exact HC0_2.out); rintro e w66 ⟨rfl, hb⟩; refine ⟨_, rfl, ?_⟩; have n0_ := Aside0.mk (Kd.R_below (by (with_reducible repeat (first | apply Kd.R_alloc | apply Kd.R_drewN | apply Kd.R_drew)); exact HO_5.out) hb); have n1_ := Aside0.mk (blk_below (g := gb174) (o := .cells #[.string a0_0, .string a0_1, .slice A0_2 l0_2.length c0_2, .slice A0_3 l0_3.length c0_3] 26 (0, 0)) (by (with_reducible repeat (first | refine blk_drewN ?_ _ | refine blk_drew ?_ | refine blk_alloc ?_ _)); exact BK174.out) hb); have n2_ := Aside0.mk (below_step (by repeat (first | (with_reducible first | exact HB.out | apply below_alloc | apply pw_below_drewN | apply below_drew1 | refine below_set ?_ GE174.out) | exact HB.out)) hb); clear HO_5; clear BK174; clear HB; have HO_5 := n0_; have BK174 := n1_; have HB := n2_; clear n0_ n1_ n2_; (try clear hb); (try clear hb2); (try clear hk); (try clear hi)))
                      go_ret
                      exact ⟨by first | rfl | (simp [errW_none, errW_some] <;> rfl) | (simp [*, errW_none, errW_some] <;> rfl), by repeat (first | (with_reducible first | exact HB.out | apply below_alloc | apply pw_below_drewN | apply below_drew1 | refine below_set ?_ GE174.out) | exact HB.out)⟩

end Go.Proofs.Ytmnidohgnnpeiaa.Prt
namespace Go.Proofs.Ytmnidohgnnpeiaa.Prt
open Go.RowKit Go.Proofs.YtmnidohgnnpeiaaW.PrintWords Go.Proofs.YtmnidohgnnpeiaaW.PrintLast Go.Proofs.YtmnidohgnnpeiaaW.PrintMore Go.Proofs.Ytmnidohgnnpeiaa.Num Go.Proofs.Ytmnidohgnnpeiaa.Nam
set_option linter.unusedVariables false
set_option linter.unusedSimpArgs false

theorem drop_rdF (l : List S35) (i : Nat) (h : i < l.length) : l.drop i = rd_T35 l (i : Int) :: l.drop (i + 1) := by
  rw [List.drop_eq_getElem_cons h]
  unfold rd_T35
  rw [Int.toNat_natCast, List.getD_eq_getElem?_getD, List.getElem?_eq_getElem h]; rfl
theorem rdF_mem {l : List S35} {i : Nat} (h : i < l.length) : rd_T35 l (i : Int) ∈ l := getD_mem' h _
theorem all_any {α : Type} (p : α → Bool) (l : List α) : l.all p = !(l.any fun x => !p x) := by
  induction l with
  | nil => rfl
  | cons a r ih => simp only [List.all_cons, List.any_cons, ih, Bool.not_or, Bool.not_not]
def endE (fit : Bool) (names tags : List ByteArray) : Int := if (tags.all tagB) = false then 5 else if riseB tags = false ∨ riseB names = false ∨ fit = false then 1 else 0
theorem may04_loop (s t : ByteArray) (tags : List ByteArray) (fl : List S35) (ht : tags.length ≤ 9223372036854775807) (h3 : fitS tags = true) (h4 : ∀ x ∈ fl, x.f0.size ≤ 9223372036854775807) (h5 : fl.length < 8796093022208) :
    ∀ (n i k : Nat) (acc : List ByteArray) (fit : Bool), i + n = fl.length → acc.length = i → n < k → registrarref04_May.l0 k acc fit (i : Int) s t tags fl = some (if ((fl.drop i).any fun x => !mayL (bytesOf x.f0)) = true then 5 else endE (fit && !(fl.drop i).any overB) (acc ++ (fl.drop i).map (·.f0)) tags) := by
  intro n
  induction n with
  | zero =>
    intro i k acc fit hi ha hk
    obtain ⟨k, rfl⟩ : ∃ m, k = m + 1 := ⟨k - 1, by omega⟩
    have m1 : registrarref04_tagsG.f tags = some (tags.all tagB) := if_pos ⟨ht, h3⟩
    have m2 : registrarref04_RiseG.f tags = some (riseB tags) := if_pos ht
    have m3 : registrarref04_RiseG.f acc = some (riseB acc) := if_pos (by omega)
    rw [registrarref04_May.l0, if_neg (by omega), m1, m2, m3, List.drop_eq_nil_of_le (by omega)]
    simp only [Option.bind_some, List.any_nil, List.map_nil, List.append_nil, Bool.not_false, Bool.and_true]
    unfold endE
    cases tags.all tagB <;> cases fit <;> cases riseB tags <;> cases riseB acc <;> rfl
  | succ n ih =>
    intro i k acc fit hi ha hk
    obtain ⟨k, rfl⟩ : ∃ m, k = m + 1 := ⟨k - 1, by omega⟩
    have m1 : registrarref03_MayG.f (rd_T35 fl (i : Int)).f0 = some (mayL (bytesOf (rd_T35 fl (i : Int)).f0)) := if_pos (h4 _ (rdF_mem (by omega)))
    rw [registrarref04_May.l0, if_pos (by omega), if_pos (by omega), m1, drop_rdF fl i (by omega), List.any_cons, List.any_cons, List.map_cons]
    simp only [Option.bind_some]
    generalize rd_T35 fl (i : Int) = x
    cases hm : mayL (bytesOf x.f0) with
    | false => rfl
    | true =>
      rw [if_pos rfl, if_pos (by omega), succW i (by omega)]
      have e : ∀ f2, registrarref04_May.l0 k (acc ++ [x.f0]) f2 ((i + 1 : Nat) : Int) s t tags fl = some (if ((fl.drop (i + 1)).any fun x => !mayL (bytesOf x.f0)) = true then 5 else endE (f2 && !(fl.drop (i + 1)).any overB) (acc ++ x.f0 :: (fl.drop (i + 1)).map (·.f0)) tags) := by
        intro f2
        rw [ih (i + 1) k _ f2 (by omega) (by simp [ha]) (by omega), List.append_assoc]; rfl
      rw [e, e]
      simp only [Bool.not_true, Bool.false_or]
      cases fit with
      | false =>
        rw [if_neg (by decide)]; rfl
      | true =>
        rw [if_pos rfl]
        by_cases h1 : x.f1 ≥ -1099511627776
        · rw [if_pos h1]
          have e2 : overB x = !decide (x.f1 ≤ 1099511627776) := by
            unfold overB
            rw [Bool.eq_iff_iff]; simp only [decide_eq_true_eq, Bool.not_eq_true', decide_eq_false_iff_not]; omega
          rw [e2]
          cases decide (x.f1 ≤ 1099511627776) <;> simp
        · rw [if_neg h1]
          have e2 : overB x = true := by unfold overB; exact decide_eq_true (by omega)
          rw [e2]; simp
theorem mayE_val (s t : ByteArray) (tags : List ByteArray) (fl : List S35) (h1 : mayL (bytesOf s) = true) (h2 : mayL (bytesOf t) = true) (h3 : ¬ 6 < tags.length) (h4 : ¬ 4 < fl.length) :
    (if (fl.any fun x => !mayL (bytesOf x.f0)) = true then 5 else endE (!fl.any overB) (fl.map (·.f0)) tags) = mayE s t tags fl := by
  have e0 : mayE s t tags fl = if (tags.any fun s => !tagB s) = true ∨ ((fl.map (·.f0)).any fun s => !mayL (bytesOf s)) = true then 5 else if riseB tags = false ∨ riseB (fl.map (·.f0)) = false ∨ fl.any overB = true then 1 else 0 := by
    unfold mayE
    rw [if_neg (by rw [h1, h2]; simp), if_neg (by omega)]
  rw [e0]
  unfold endE
  rw [List.any_map, all_any]
  have e : (fl.any fun x => !mayL (bytesOf x.f0)) = fl.any ((fun s => !mayL (bytesOf s)) ∘ fun x => x.f0) := rfl
  rw [e]
  cases fl.any ((fun s => !mayL (bytesOf s)) ∘ fun x => x.f0) <;> cases (tags.any fun x => !tagB x) <;> cases riseB tags <;> cases riseB (fl.map (·.f0)) <;> cases fl.any overB <;> simp
def registrarref04_MayG.f (a0_0 : ByteArray) (a0_1 : ByteArray) (l0_2 : List ByteArray) (l0_3 : List (S35)) : Option (Int) := if fitE a0_0 a0_1 l0_2 l0_3 = true ∧ l0_2.length ≤ 9223372036854775807 then some (mayE a0_0 a0_1 l0_2 l0_3) else none
theorem registrarref04_MayG.val {a0_0 a0_1 : ByteArray} {l0_2 : List ByteArray} {l0_3 : List (S35)} {r : Int} (h : registrarref04_MayG.f a0_0 a0_1 l0_2 l0_3 = some r) : ∃ k, registrarref04_May.f k a0_0 a0_1 l0_2 l0_3 = some r := by
  unfold registrarref04_MayG.f at h
  by_cases hc : fitE a0_0 a0_1 l0_2 l0_3 = true ∧ l0_2.length ≤ 9223372036854775807
  · rw [if_pos hc] at h
    obtain rfl := Option.some.inj h
    obtain ⟨h1, h2, h3, h4, h5⟩ := fitE_iff.1 hc.1
    have m1 : registrarref03_MayG.f a0_0 = some (mayL (bytesOf a0_0)) := if_pos h1
    have m2 : registrarref03_MayG.f a0_1 = some (mayL (bytesOf a0_1)) := if_pos h2
    refine ⟨l0_3.length + 4, ?_⟩
    unfold registrarref04_May.f
    rw [m1, m2]
    simp only [Option.bind_some]
    cases q1 : mayL (bytesOf a0_0) with
    | false =>
      rw [if_neg (by decide), registrarref04_May.j0, if_pos rfl]
      unfold mayE; rw [if_pos (.inl q1)]
    | true =>
      rw [if_pos rfl, registrarref04_May.j0]
      cases q2 : mayL (bytesOf a0_1) with
      | false => rw [if_pos (by decide)]; unfold mayE; rw [if_pos (.inr q2)]
      | true =>
        rw [if_neg (by decide)]
        by_cases g1 : 6 < l0_2.length
        · rw [if_pos (by omega), registrarref04_May.j1, if_pos rfl]
          unfold mayE; rw [if_neg (by rw [q1, q2]; simp), if_pos (.inl g1)]
        · rw [if_neg (by omega), registrarref04_May.j1]
          by_cases g2 : 4 < l0_3.length
          · rw [if_pos (decide_eq_true (by omega))]
            unfold mayE; rw [if_neg (by rw [q1, q2]; simp), if_pos (.inr g2)]
          · rw [if_neg (by rw [decide_eq_true_iff]; omega), show (0 : Int) = ((0 : Nat) : Int) from rfl, may04_loop a0_0 a0_1 l0_2 l0_3 hc.2 (fitS_iff.2 h3) h4 h5 l0_3.length 0 _ [] true (by omega) rfl (by omega), List.drop_zero, List.nil_append, Bool.true_and, mayE_val _ _ _ _ q1 q2 g1 g2]
  · rw [if_neg hc] at h; cases h
theorem registrarref04_MayG.calls (a0_0 : ByteArray) (a0_1 : ByteArray) (A0_2 : Option Addr) (c0_2 : Nat) (l0_2 : List ByteArray) (A0_3 : Option Addr) (c0_3 : Nat) (l0_3 : List (S35)) (r : Int) (w : World) (hr0_2 : Kd.C Kd.string w A0_2 l0_2.length l0_2) (hc0_2 : l0_2.length ≤ c0_2) (hr0_3 : Kd.C k35 w A0_3 l0_3.length l0_3) (hc0_3 : l0_3.length ≤ c0_3) (h : registrarref04_MayG.f a0_0 a0_1 l0_2 l0_3 = some r) :
    Calls Try.prog 25 #[.agg #[.string a0_0, .string a0_1, .slice A0_2 l0_2.length c0_2, .slice A0_3 l0_3.length c0_3]] w fun e w' => e = .returned (.int .i64 r) ∧ Below w.heap.size w w' := by
  obtain ⟨k, hk⟩ := registrarref04_MayG.val h
  exact registrarref04_May.calls k a0_0 a0_1 A0_2 c0_2 l0_2 A0_3 c0_3 l0_3 r w hr0_2 hc0_2 hr0_3 hc0_3 hk

def eqF (x y : S35) : Bool := eqS x.f0 y.f0 && (x.f1 == y.f1)
theorem eqF_iff (x y : S35) : eqF x y = true ↔ x = y := by
  unfold eqF
  rw [Bool.and_eq_true, eqS_iff, beq_iff_eq]
  cases x; cases y; simp
def eqEv (s t : ByteArray) (a : List ByteArray) (f : List S35) (s' t' : ByteArray) (a' : List ByteArray) (f' : List S35) : Bool := eqS s s' && eqS t t' && eqL eqS a a' && eqL eqF f f'
theorem eqEv_iff {s t : ByteArray} {a : List ByteArray} {f : List S35} {s' t' : ByteArray} {a' : List ByteArray} {f' : List S35} : eqEv s t a f s' t' a' f' = true ↔ s = s' ∧ t = t' ∧ a = a' ∧ f = f' := by
  unfold eqEv
  simp only [Bool.and_eq_true, eqS_iff, eqL_iff eqS_iff, eqL_iff eqF_iff, and_assoc]
theorem same_loop (s t s' t' : ByteArray) (a a' : List ByteArray) (f f' : List S35) (hl : f.length ≤ 9223372036854775807) (hff : f.length = f'.length) : ∀ (n i k : Nat), i + n = f.length → n < k → registrarref04_Same.l0 k (i : Int) s t a f s' t' a' f' = some (eqL eqF (f.drop i) (f'.drop i)) := by
  intro n
  induction n with
  | zero =>
    intro i k hi hk
    obtain ⟨k, rfl⟩ : ∃ m, k = m + 1 := ⟨k - 1, by omega⟩
    rw [registrarref04_Same.l0, if_neg (by omega), List.drop_eq_nil_of_le (by omega), List.drop_eq_nil_of_le (by omega)]; rfl
  | succ n ih =>
    intro i k hi hk
    obtain ⟨k, rfl⟩ : ∃ m, k = m + 1 := ⟨k - 1, by omega⟩
    rw [registrarref04_Same.l0, if_pos (by omega), if_pos (by omega), if_pos (by omega), drop_rdF f i (by omega), drop_rdF f' i (by omega), eqL, succW i (by omega), ih (i + 1) k (by omega) (by omega)]
    unfold eqF eqS
    cases ((rd_T35 f (i : Int)).f0.toList == (rd_T35 f' (i : Int)).f0.toList) <;> cases ((rd_T35 f (i : Int)).f1 == (rd_T35 f' (i : Int)).f1) <;> rfl
def registrarref04_SameG.f (a0_0 : ByteArray) (a0_1 : ByteArray) (l0_2 : List ByteArray) (l0_3 : List (S35)) (a1_0 : ByteArray) (a1_1 : ByteArray) (l1_2 : List ByteArray) (l1_3 : List (S35)) : Option (Bool) :=
  if l0_2.length ≤ 9223372036854775807 ∧ l0_3.length ≤ 9223372036854775807 then some (eqEv a0_0 a0_1 l0_2 l0_3 a1_0 a1_1 l1_2 l1_3) else none
theorem registrarref04_SameG.val {a0_0 a0_1 : ByteArray} {l0_2 : List ByteArray} {l0_3 : List (S35)} {a1_0 a1_1 : ByteArray} {l1_2 : List ByteArray} {l1_3 : List (S35)} {r : Bool} (h : registrarref04_SameG.f a0_0 a0_1 l0_2 l0_3 a1_0 a1_1 l1_2 l1_3 = some r) : ∃ k, registrarref04_Same.f k a0_0 a0_1 l0_2 l0_3 a1_0 a1_1 l1_2 l1_3 = some r := by
  unfold registrarref04_SameG.f at h
  by_cases hc : l0_2.length ≤ 9223372036854775807 ∧ l0_3.length ≤ 9223372036854775807
  · rw [if_pos hc] at h
    obtain rfl := Option.some.inj h
    have m1 : registrarref04_TextsG.f l0_2 l1_2 = some (eqL eqS l0_2 l1_2) := if_pos hc.1
    have j0t : ∀ k, registrarref04_Same.j0 (k + 1) true a0_0 a0_1 l0_2 l0_3 a1_0 a1_1 l1_2 l1_3 = some false := fun k => by rw [registrarref04_Same.j0, if_pos rfl]
    refine ⟨l0_3.length + 3, ?_⟩
    unfold registrarref04_Same.f
    rw [m1]
    simp only [Option.bind_some]
    have e1 : eqS a0_0 a1_0 = decide (a0_0.toList = a1_0.toList) := by unfold eqS; rw [Bool.eq_iff_iff, beq_iff_eq, decide_eq_true_iff]
    have e2 : eqS a0_1 a1_1 = decide (a0_1.toList = a1_1.toList) := by unfold eqS; rw [Bool.eq_iff_iff, beq_iff_eq, decide_eq_true_iff]
    unfold eqEv
    rw [e1, e2]
    by_cases g1 : a0_0.toList = a1_0.toList
    · rw [if_pos g1, decide_eq_true g1]
      by_cases g2 : a0_1.toList = a1_1.toList
      · rw [if_pos g2, decide_eq_true g2]
        cases eqL eqS l0_2 l1_2 with
        | false => rw [if_neg (by decide), j0t]; rfl
        | true =>
          rw [if_pos rfl, registrarref04_Same.j0]
          by_cases g3 : l0_3.length = l1_3.length
          · rw [if_neg (by rw [bne_iff_ne]; omega)]
            have := same_loop a0_0 a0_1 a1_0 a1_1 l0_2 l1_2 l0_3 l1_3 hc.2 g3 l0_3.length 0 (l0_3.length + 2) (by omega) (by omega)
            rw [List.drop_zero, List.drop_zero] at this
            exact this
          · rw [if_pos (by rw [bne_iff_ne]; omega), eqL_len _ _ g3]; rfl
      · rw [if_neg g2, decide_eq_false g2, j0t, Bool.and_false]; rfl
    · rw [if_neg g1, decide_eq_false g1, j0t]; rfl
  · rw [if_neg hc] at h; cases h
theorem registrarref04_SameG.calls (a0_0 : ByteArray) (a0_1 : ByteArray) (A0_2 : Option Addr) (c0_2 : Nat) (l0_2 : List ByteArray) (A0_3 : Option Addr) (c0_3 : Nat) (l0_3 : List (S35)) (a1_0 : ByteArray) (a1_1 : ByteArray) (A1_2 : Option Addr) (c1_2 : Nat) (l1_2 : List ByteArray) (A1_3 : Option Addr) (c1_3 : Nat) (l1_3 : List (S35)) (r : Bool) (w : World) (hr0_2 : Kd.C Kd.string w A0_2 l0_2.length l0_2) (hc0_2 : l0_2.length ≤ c0_2) (hr0_3 : Kd.C k35 w A0_3 l0_3.length l0_3) (hc0_3 : l0_3.length ≤ c0_3) (hr1_2 : Kd.C Kd.string w A1_2 l1_2.length l1_2) (hc1_2 : l1_2.length ≤ c1_2) (hr1_3 : Kd.C k35 w A1_3 l1_3.length l1_3) (hc1_3 : l1_3.length ≤ c1_3) (h : registrarref04_SameG.f a0_0 a0_1 l0_2 l0_3 a1_0 a1_1 l1_2 l1_3 = some r) :
    Calls Try.prog 13 #[.agg #[.string a0_0, .string a0_1, .slice A0_2 l0_2.length c0_2, .slice A0_3 l0_3.length c0_3], .agg #[.string a1_0, .string a1_1, .slice A1_2 l1_2.length c1_2, .slice A1_3 l1_3.length c1_3]] w fun e w' => e = .returned (.bool r) ∧ Below w.heap.size w w' := by
  obtain ⟨k, hk⟩ := registrarref04_SameG.val h
  exact registrarref04_Same.calls k a0_0 a0_1 A0_2 c0_2 l0_2 A0_3 c0_3 l0_3 a1_0 a1_1 A1_2 c1_2 l1_2 A1_3 c1_3 l1_3 r w hr0_2 hc0_2 hr0_3 hc0_3 hr1_2 hc1_2 hr1_3 hc1_3 hk
end Go.Proofs.Ytmnidohgnnpeiaa.Prt
namespace Go.Proofs.Ytmnidohgnnpeiaa.Gen
open Go.RowKit Go.Proofs.YtmnidohgnnpeiaaW.PrintWords Go.Proofs.YtmnidohgnnpeiaaW.PrintLast Go.Proofs.YtmnidohgnnpeiaaW.PrintMore
set_option linter.unusedVariables false
set_option linter.unusedSimpArgs false

section
variable {P : Program} {ops : Array Oper} {rest : List Oper} {o : Oper} {a : Act} {Q : Exit → Act → World → Prop} {α : Type}
/-- make([]T, n, c): n elements, each z0. -/
theorem R_makeCap (d : Kd α) {w0 W : World} (base e : Nat) (hgd : o.guard = none) (t : TypeId) (x y : Operand) (ho : o.op = .makeSlice t x y) (n c : Int) (hx : a.eval x = .int .i64 n) (hy : a.eval y = .int .i64 c)
    (ht : P.underlying t = some (.slice e)) (z : Value) (bytes : Nat) (hinfo : (P.info? e).map (fun i => (i.zero, i.size, i.bytes)) = some (some z, d.sz, bytes)) (hz : z.cells.size = d.sz) (hs0 : 0 < d.sz) (hb0 : 0 < bytes)
    (z0 : α) (hzero : ∀ W' base' ok', d.M W' base' ok' z0 z.cells.toList) (h0 : 0 ≤ n) (hnc : n ≤ c) (hl : c.toNat * bytes ≤ 281474976710656) (HB : Below base w0 W) (hbase : base ≤ W.heap.size)
    (h : ∀ v1 w1, d.R e w1 W.heap.size (fun _ => True) v1 (List.replicate n.toNat z0) → Below base w0 w1 → W.grownBy w1 none → (∃ b, v1.ownBlock = some b ∧ W.heap.size ≤ b) → wpList P ops Q rest (a.put o.dst v1) w1) : wpList P ops Q (o :: rest) a W := by
  obtain ⟨m, rfl⟩ := Int.eq_ofNat_of_zero_le h0
  obtain ⟨k, rfl⟩ := Int.eq_ofNat_of_zero_le (Int.le_trans h0 hnc)
  simp only [Int.toNat_natCast] at hl h
  have hmk : m ≤ k := by omega
  obtain ⟨i0, hi, hzz⟩ := Option.map_eq_some_iff.1 hinfo
  simp only [Prod.mk.injEq] at hzz
  obtain ⟨hz0, hz1, hz2⟩ := hzz
  have hm : k ≤ 281474976710656 := Nat.le_trans (Nat.le_mul_of_pos_right _ hb0) hl
  have hr := run_make (P := P) W t e i0 z ht hi hz0 .i64 .i64 (m : Int) (k : Int) (by omega) (by omega)
    (by
      have h3 : ((i0.bytes * k : Nat) : Int) ≤ 281474976710656 := by rw [hz2, Nat.mul_comm]; omega
      rwa [Int.natCast_mul] at h3) (by omega)
  simp only [Int.toNat_natCast] at hr
  rw [hz1] at hr
  refine Kd.event_run hgd (by simp [execOp, ho, hx, hy, hr]; exact ⟨rfl, rfl⟩) (h _ _ ⟨fun _ _ => trivial, (madeCells z.cells (m * d.sz)).toList, ?_, ?_⟩ (HB.alloc hbase _) (World.grownBy_alloc W _ none) ⟨W.heap.size, by simp [Value.ownBlock], Nat.le_refl _⟩)
  · rw [List.length_replicate]
    refine ⟨by simp [size_madeCells], .inr ⟨W.heap.size, k, madeCells z.cells (k * d.sz), rfl, Nat.le_refl _, heap_alloc_new W _, hmk, by simp only [maxLen]; omega, size_madeCells _ _, ?_⟩⟩
    have hle : m * d.sz ≤ k * d.sz := Nat.mul_le_mul_right _ hmk
    apply List.ext_getElem
    · simp only [List.length_take, Array.length_toList, size_madeCells]; omega
    · intro i h1 h2
      simp [madeCells]
  · exact Kd.reps_made hz hs0 (hzero _ _ _) m
/-- append(v, s...), s a string. -/
theorem R_append_str {w0 W : World} (base : Nat) (hgd : o.guard = none) (s x : Operand) (t u e : TypeId)
    (ho : o.op = .call { callee := .builtin .append, args := #[s, x], argTypes := #[t, u] })
    (ht : P.underlying t = some (.slice e)) (hu : P.underlying u = some .string) (hinfo : (P.info? e).map (fun i => (i.zero, i.size, i.bytes)) = some (some (.int .u8 0), 1, 1))
    (v : Value) (xs : List Int) (y : ByteArray) (hs : a.eval s = v) (hx : a.eval x = .string y)
    (HO : (Kd.int .u8).R e W base (fun _ => True) v xs) (HB : Below base w0 W) (hbase : base ≤ W.heap.size) (hl : xs.length + y.size ≤ 140737488355328)
    (h : ∀ v1 w1, (Kd.int .u8).R e w1 base (fun _ => True) v1 (xs ++ bytesOf y) → Below base w0 w1 → W.grownBy w1 v.ownBlock → wpList P ops Q rest (a.put o.dst v1) w1) :
    wpList P ops Q (o :: rest) a W :=
  print_append_str base hgd s x t u e ho ht hu hinfo v xs y hs hx (Kd.own_of_R HO) HB hbase hl (fun v1 w1 hw hb hg => h v1 w1 (Kd.R_of_own hw (fun _ _ => trivial)) hb hg)
/-- []byte(s) -/
theorem ev_bytes {w0 W : World} (base : Nat) (hgd : o.guard = none) (src dst e : TypeId) (x : Operand) (ho : o.op = .convert src dst x) (hs : P.underlying src = some .string) (hd : P.underlying dst = some (.slice e)) (he : P.underlying e = some (.int .u8))
    (s : ByteArray) (hx : a.eval x = .string s) (hn : s.size ≤ 9223372036854775807) (HB : Below base w0 W) (hbase : base ≤ W.heap.size)
    (h : ∀ A c w1, (Kd.int .u8).C w1 A s.size (bytesOf s) → s.size ≤ c → Below base w0 w1 → Below W.heap.size W w1 → wpList P ops Q rest (a.put o.dst (.slice A s.size c)) w1) :
    wpList P ops Q (o :: rest) a W := by
  refine Kd.event_run hgd (v := .slice (some ⟨W.heap.size, 0, none⟩) s.size (grownCap W s.size 0 e)) (w1 := Lib.bytesWorld W e s) ?_ (h _ _ _ (Kd.C_of_reads (d := (0 : Int)) (h1 := fun _ => rfl) (bytes_reads W e s hn)) ?_ (bytes_below HB hbase e s) (bytes_below (Below.refl _ _) (Nat.le_refl _) e s))
  · have hr := print_bytes (P := P) src dst e hs hd he s W
    simp [execOp, ho, hx, hr]
  · exact grownCap_ge W s.size 0 e
/-- string(b) -/
theorem ev_string {W : World} (hgd : o.guard = none) (src dst e : TypeId) (x : Operand) (ho : o.op = .convert src dst x) (hs : P.underlying src = some (.slice e)) (hd : P.underlying dst = some .string) (he : P.underlying e = some (.int .u8))
    {A : Option Addr} {n c : Nat} {xs : List Int} (hx : a.eval x = .slice A n c) (HR : (Kd.int .u8).C W A n xs)
    (h : wpList P ops Q rest (a.put o.dst (.string (strOfNums xs))) W) :
    wpList P ops Q (o :: rest) a W := by
  refine Kd.event_run hgd (v := .string (strOfNums xs)) (w1 := W) ?_ h
  have hr := Kd.C_string (P := P) (c := c) hs he hd HR
  simp [execOp, ho, hx, hr]
/-- string(b), told as the string that it is. -/
theorem ev_string' {W : World} (s : ByteArray) (hgd : o.guard = none) (src dst e : TypeId) (x : Operand) (ho : o.op = .convert src dst x) (hs : P.underlying src = some (.slice e)) (hd : P.underlying dst = some .string) (he : P.underlying e = some (.int .u8))
    {A : Option Addr} {n c : Nat} {xs : List Int} (hx : a.eval x = .slice A n c) (HR : (Kd.int .u8).C W A n xs) (hS : strOfNums xs = s)
    (h : wpList P ops Q rest (a.put o.dst (.string s)) W) :
    wpList P ops Q (o :: rest) a W := by
  subst hS; exact ev_string hgd src dst e x ho hs hd he hx HR h
/-- append([]T{}, ys...): a copy; nothing that was there is written. -/
theorem fresh_run (d : Kd α) {W : World} (t ty e : TypeId) (z : Value) (bytes : Nat)
    (ht : P.underlying t = some (.slice e)) (hinfo : (P.info? e).map (fun i => (i.zero, i.size, i.bytes)) = some (some z, d.sz, bytes)) (hs0 : 0 < d.sz) (hb0 : 0 < bytes)
    (g : Nat) (A : Option Addr) (m c : Nat) (ys : List α) (HR : d.C W A m ys) (hl : m * bytes ≤ 140737488355328) :
    ∃ A1 c1 w1, (Builtin.append_ #[t, t] ty #[.slice (some ⟨g, 0, none⟩) 0 0, .slice A m c]).run P W = .ok (.slice A1 m c1) w1 ∧ m ≤ c1 ∧ d.C w1 A1 m ys ∧ Below W.heap.size W w1 := by
  obtain ⟨i0, hi, hzz⟩ := Option.map_eq_some_iff.1 hinfo
  simp only [Prod.mk.injEq] at hzz
  obtain ⟨hz0, hz1, hz2⟩ := hzz
  have hm : ys.length = m := HR.1
  have hlen : m ≤ 140737488355328 := Nat.le_trans (Nat.le_mul_of_pos_right _ hb0) hl
  rcases Nat.eq_zero_or_pos m with h0 | h0
  · subst h0
    obtain rfl : ys = [] := List.eq_nil_of_length_eq_zero hm
    refine ⟨some ⟨g, 0, none⟩, 0, W, ?_, Nat.le_refl _, ⟨rfl, by omega, fun h => absurd h (Nat.lt_irrefl 0)⟩, Below.refl _ _⟩
    rcases A with _ | ad
    · simp [Builtin.append_, run_underlying ht, sizeOf, typeInfo, hi, Builtin.lenOf, Builtin.firstCells, storeCells]
    · simp [Builtin.append_, run_underlying ht, sizeOf, typeInfo, hi, Builtin.lenOf, Builtin.firstCells, loadCells, loadCellsFrom, storeCells]
  · obtain ⟨ad, rfl, _⟩ := HR.2.2 h0
    obtain ⟨news, hnr, hnc⟩ := ReadsRow.inner_ HR
    have hnl : news.length = m * i0.size := by rw [hnr.1, hm, hz1]
    have hr := run_append_grow (P := P) W t ty e i0 z ht hi hz0 ⟨g, 0, none⟩ 0 0 [] (by simp) (fun j v hj => by simp at hj) ad m c news hnl hnc (by omega) (by omega) (growslice_fits (by omega) (by rw [hz2]; simpa using hl))
    simp only [Nat.zero_add, List.nil_append, Array.empty_append] at hr
    have hb : Below W.heap.size W (W.drew.alloc (.cells (news.toArray ++ Builtin.zeroCells z.cells (grownCap W m 0 e - m)) e)) := below_alloc (below_drew (Below.refl _ _)) _
    refine ⟨_, _, _, hr, grownCap_ge W m 0 e, ⟨hm, by omega, fun _ => ⟨_, rfl, fun j p hj => ?_⟩⟩, hb⟩
    have hjl : j < m := by rw [← hm]; exact (List.getElem?_eq_some_iff.1 hj).1
    refine ⟨(news.drop (j * d.sz)).take d.sz, ?_, d.K_below hb (hnr.2 j p hj), fun k u hu => ?_⟩
    · have hle : j * d.sz + d.sz ≤ news.length := by rw [hnl, hz1, ← Nat.succ_mul]; exact Nat.mul_le_mul_right _ hjl
      rw [List.length_take, List.length_drop]; omega
    · rw [add_plain]
      have hk : k < d.sz := by
        have := (List.getElem?_eq_some_iff.1 hu).1
        rw [List.length_take] at this
        omega
      rw [List.getElem?_take, if_pos hk, List.getElem?_drop] at hu
      have hkl := (List.getElem?_eq_some_iff.1 hu).1
      have hcell := cell_of_row (W.drew.alloc (.cells (news.toArray ++ Builtin.zeroCells z.cells (grownCap W m 0 e - m)) e)) W.heap.size (j * d.sz + k) _ e (0, 0) (heap_alloc_new W.drew _)
      rw [hcell, Array.getElem?_append_left (by simpa using hkl)]
      simpa using hu
theorem fresh_step {Kc : Act → World → Prop} (d : Kd α) {W : World} (hw : Region.wanted o (yielded ops a.tmps) = true) (s x : Operand) (t e : TypeId) (z : Value) (bytes : Nat)
    (ho : o.op = .call { callee := .builtin .append, args := #[s, x], argTypes := #[t, t] })
    (ht : P.underlying t = some (.slice e)) (hinfo : (P.info? e).map (fun i => (i.zero, i.size, i.bytes)) = some (some z, d.sz, bytes)) (hs0 : 0 < d.sz) (hb0 : 0 < bytes)
    (g : Nat) (A : Option Addr) (m c : Nat) (ys : List α) (hs : a.eval s = .slice (some ⟨g, 0, none⟩) 0 0) (hx : a.eval x = .slice A m c) (HR : d.C W A m ys) (hl : m * bytes ≤ 140737488355328)
    (h : ∀ A1 c1 w1, m ≤ c1 → d.C w1 A1 m ys → Below W.heap.size W w1 → Kc (a.put o.dst (.slice A1 m c1)) w1) :
    if Region.wanted o (yielded ops a.tmps) = true then Oper.wp P o a W Kc Q else Kc (a.put o.dst undef) W := by
  obtain ⟨A1, c1, w1, hr, h1, h2, h3⟩ := fresh_run (P := P) d t o.type e z bytes ht hinfo hs0 hb0 g A m c ys HR hl
  refine event_step hw (v := .slice A1 m c1) (w1 := w1) ?_ (h _ _ _ h1 h2 h3)
  unfold execOp
  simp only [ho, resolve, invoke, builtin, Sem.run_bind, Sem.run_pure, Result.andThen_ok, List.map_toArray, List.map_cons, List.map_nil, hs, hx, hr]
theorem fresh_list (d : Kd α) {W : World} (hgd : o.guard = none) (s x : Operand) (t e : TypeId) (z : Value) (bytes : Nat)
    (ho : o.op = .call { callee := .builtin .append, args := #[s, x], argTypes := #[t, t] })
    (ht : P.underlying t = some (.slice e)) (hinfo : (P.info? e).map (fun i => (i.zero, i.size, i.bytes)) = some (some z, d.sz, bytes)) (hs0 : 0 < d.sz) (hb0 : 0 < bytes)
    (g : Nat) (A : Option Addr) (m c : Nat) (ys : List α) (hs : a.eval s = .slice (some ⟨g, 0, none⟩) 0 0) (hx : a.eval x = .slice A m c) (HR : d.C W A m ys) (hl : m * bytes ≤ 140737488355328)
    (h : ∀ A1 c1 w1, m ≤ c1 → d.C w1 A1 m ys → Below W.heap.size W w1 → wpList P ops Q rest (a.put o.dst (.slice A1 m c1)) w1) :
    wpList P ops Q (o :: rest) a W := by
  obtain ⟨A1, c1, w1, hr, h1, h2, h3⟩ := fresh_run (P := P) d t o.type e z bytes ht hinfo hs0 hb0 g A m c ys HR hl
  refine Kd.event_run hgd (v := .slice A1 m c1) (w1 := w1) ?_ (h _ _ _ h1 h2 h3)
  unfold execOp
  simp only [ho, resolve, invoke, builtin, Sem.run_bind, Sem.run_pure, Result.andThen_ok, List.map_toArray, List.map_cons, List.map_nil, hs, hx, hr]
end
end Go.Proofs.Ytmnidohgnnpeiaa.Gen
namespace Go.Proofs.Ytmnidohgnnpeiaa.Num
open Go.RowKit Go.Proofs.YtmnidohgnnpeiaaW.PrintWords Go.Proofs.YtmnidohgnnpeiaaW.PrintLast Go.Proofs.YtmnidohgnnpeiaaW.PrintMore
set_option linter.unusedVariables false
set_option linter.unusedSimpArgs false

theorem info_u8 : (Try.prog.info? 5).map (fun i => (i.zero, i.size, i.bytes)) = some (some (.int .u8 0), 1, 1) := by kernel_rfl
theorem size_u8 : (Try.prog.info? 5).map (·.size) = some 1 := by kernel_rfl

theorem put_calls (A0 : Option Addr) (c0 : Nat) (l0 : List Int) (a1 : Int) (w : World) (hr0 : Kd.C (Kd.int .u8) w A0 l0.length l0) (hc0 : l0.length ≤ c0) (h1 : -9223372036854775808 ≤ a1) (h2 : a1 ≤ 9223372036854775807) (hl : l0.length ≤ 140737488350000) :
    Calls Try.prog 24 #[.slice A0 l0.length c0, .int .i64 a1] w fun e w' => ∃ v0_ : Value, e = .returned (v0_) ∧ Kd.R (Kd.int .u8) 5 w' w.heap.size (fun _ => True) v0_ (l0 ++ enc a1) ∧ Below w.heap.size w w' := by
  have HR0 := Aside0.mk hr0
  have HC0 := Aside0.mk hc0
  clear hr0 hc0
  have HB := Aside0.mk (Below.refl w.heap.size w)
  go_enter Try.func24, Try.ntmps24
  go_wp2_with (first
    | ((with_reducible refine gate_dst (N := 12) rfl ?_); refine Gen.R_makeCap (Kd.int .u8) (w0 := w) w.heap.size 5 rfl 22 (.tmp 8) (.tmp 11) rfl (l0.length : Int) ((l0.length : Int) + 10) rfl rfl Try.underlying22 (.int .u8 0) 1 info_u8 rfl (by decide) (by decide) 0 (fun _ _ _ => rfl) (by omega) (by omega) (by omega) (by repeat (first | (with_reducible first | exact HB.out | apply below_alloc | apply pw_below_drewN | apply below_drew1) | exact HB.out)) (below_size (by repeat (first | (with_reducible first | exact HB.out | apply below_alloc | apply pw_below_drewN | apply below_drew1) | exact HB.out))) ?_; intro v1 w1 ho hb hg hat; have n0_ := Aside0.mk hb; have n1_ := Aside0.mk ho; clear HB; have HB := n0_; have HO1 := n1_; clear n0_ n1_ ho hb hg hat)
    | ((with_reducible refine gate_builtin (b := .copy) (xs := #[.tmp 13, .tmp 14]) rfl ?_); refine Kd.R_copy (enc := Value.int .u8) (h1 := fun _ => rfl) (0 : Int) (w0 := w) w.heap.size rfl (.tmp 13) (.tmp 14) 22 22 5 rfl Try.underlying22 size_u8 v1 (List.replicate (l0.length : Int).toNat 0) l0 A0 l0.length c0 (fun _ => True) rfl rfl (by (with_reducible repeat (first | apply Kd.R_alloc | apply Kd.R_drewN | apply Kd.R_drew)); exact HO1.out) (by repeat (first | exact (Kd.C_below HR0.out HB.out) | (with_reducible refine Kd.C_alloc ?_ _) | (with_reducible refine Kd.C_drewN ?_ _) | (with_reducible refine Kd.C_drew ?_))) (by repeat (first | (with_reducible first | exact HB.out | apply below_alloc | apply pw_below_drewN | apply below_drew1) | exact HB.out)) (below_size (by repeat (first | (with_reducible first | exact HB.out | apply below_alloc | apply pw_below_drewN | apply below_drew1) | exact HB.out))) ?_; intro w2 ho hb hg; have n0_ := Aside0.mk hb; have n1_ := Aside0.mk ho; clear HB HO1; have HB := n0_; have HO2 := n1_; clear n0_ n1_ ho hb hg))
  have hz := zz_lt h1 h2
  have HL := Aside0.mk (enc_len ⟨h1, h2⟩)
  rw [zz_code ⟨h1, h2⟩]
  have HO2' : Aside0 (Kd.R (Kd.int .u8) 5 w2 w.heap.size (fun _ => True) v1 l0) := ⟨by
    have e := HO2.out
    simp only [Int.toNat_natCast, List.length_replicate, Nat.min_self, List.take_length, List.drop_replicate, Nat.sub_self, List.replicate_zero, List.append_nil] at e
    exact e⟩
  clear HO2
  go_loopg [5, 6] (zz a1) (fun u v5 v6 w' => ∃ x : List Int, v6 = .int .u64 (u : Int) ∧ Aside0 (x ++ encN u = l0 ++ enc a1) ∧ Aside0 (u < 18446744073709551616) ∧ Aside0 (Kd.R (Kd.int .u8) 5 w' w.heap.size (fun _ => True) v5 x) ∧ Aside0 (Below w.heap.size w w'))
  case atStart => exact ⟨l0, rfl, ⟨rfl⟩, ⟨hz⟩, HO2', HB⟩
  case round =>
    obtain ⟨x, rfl, HE, HU, HO, HB⟩ := hrel
    have hu := HU.out
    have HX : Aside0 (x.length ≤ 140737488350020) := ⟨by
      have e := congrArg List.length HE.out
      simp only [List.length_append] at e
      have := HL.out; omega⟩
    by_cases hc : 128 ≤ gk
    · have hd : decide ((128 : Int) ≤ (gk : Int)) = true := decide_eq_true (by omega)
      go_wp2_with (first | ((with_reducible refine gate_builtin (b := .append) (xs := #[.tmp 27, .tmp 31]) rfl ?_); at_builtin; refine Kd.R_append (Kd.int .u8) (w0 := w) w.heap.size rfl (.tmp 27) (.tmp 31) 22 5 (.int .u8 0) 1 rfl Try.underlying22 info_u8 rfl (by decide) (by omega) u5 x (bits BinOp.or IntKind.u8 ((gk : Int) % 256) 128) [(.int .u8 (bits BinOp.or IntKind.u8 ((gk : Int) % 256) 128))] (fun _ => True) (fun _ => False) rfl rfl ?aP (fun _ hk => hk.elim) ?aF ?aO ?aB ?aS ?aL ?_; (case aP => exact rfl); (case aB => exact (by repeat (first | (with_reducible first | exact HB.out | apply below_alloc | apply pw_below_drewN | apply below_drew1) | exact HB.out))); (case aF => exact (fun _ _ => trivial)); (case aO => exact (by (with_reducible repeat (first | apply Kd.R_alloc | apply Kd.R_drewN | apply Kd.R_drew)); exact HO.out)); (case aS => exact (below_size (by repeat (first | (with_reducible first | exact HB.out | apply below_alloc | apply pw_below_drewN | apply below_drew1) | exact HB.out)))); (case aL => have := HX.out; omega); intro v8 w8 ho hb hg hat; have n0_ := Aside0.mk (hb); have n1_ := Aside0.mk (ho); clear HB; clear HO; have HB := n0_; have HO8 := n1_; clear n0_ n1_; clear ho hb hg hat))
      go_roundg (gk / 128)
      case measure => omega
      case rel =>
        refine ⟨_, rfl, ⟨?_⟩, ⟨by omega⟩, ⟨(by (with_reducible repeat (first | apply Kd.R_alloc | apply Kd.R_drewN | apply Kd.R_drew)); exact HO8.out)⟩, ⟨(by repeat (first | (with_reducible first | exact HB.out | apply below_alloc | apply pw_below_drewN | apply below_drew1) | exact HB.out))⟩⟩
        rw [← HE.out, encN_ge hc, or_128, List.append_assoc]; rfl
    · have hd : decide ((128 : Int) ≤ (gk : Int)) = false := decide_eq_false (by omega)
      go_wp2_with (first | ((with_reducible refine gate_builtin (b := .append) (xs := #[.tmp 33, .tmp 36]) rfl ?_); at_builtin; refine Kd.R_append (Kd.int .u8) (w0 := w) w.heap.size rfl (.tmp 33) (.tmp 36) 22 5 (.int .u8 0) 1 rfl Try.underlying22 info_u8 rfl (by decide) (by omega) u5 x ((gk : Int)) [(.int .u8 ((gk : Int)))] (fun _ => True) (fun _ => False) rfl rfl ?aP (fun _ hk => hk.elim) ?aF ?aO ?aB ?aS ?aL ?_; (case aP => exact rfl); (case aB => exact (by repeat (first | (with_reducible first | exact HB.out | apply below_alloc | apply pw_below_drewN | apply below_drew1) | exact HB.out))); (case aF => exact (fun _ _ => trivial)); (case aO => exact (by (with_reducible repeat (first | apply Kd.R_alloc | apply Kd.R_drewN | apply Kd.R_drew)); exact HO.out)); (case aS => exact (below_size (by repeat (first | (with_reducible first | exact HB.out | apply below_alloc | apply pw_below_drewN | apply below_drew1) | exact HB.out)))); (case aL => have := HX.out; omega); intro v8 w8 ho hb hg hat; have n0_ := Aside0.mk (hb); have n1_ := Aside0.mk (ho); clear HB; clear HO; have HB := n0_; have HO8 := n1_; clear n0_ n1_; clear ho hb hg hat))
      go_ret
      refine ⟨_, rfl, ?_, (by repeat (first | (with_reducible first | exact HB.out | apply below_alloc | apply pw_below_drewN | apply below_drew1) | exact HB.out))⟩
      have e : x ++ [(gk : Int)] = l0 ++ enc a1 := by rw [← HE.out, encN_lt (by omega)]
      rw [← e]
      exact (by (with_reducible repeat (first | apply Kd.R_alloc | apply Kd.R_drewN | apply Kd.R_drew)); exact HO8.out)

theorem putText_calls (A0 : Option Addr) (c0 : Nat) (l0 : List Int) (s : ByteArray) (w : World) (hr0 : Kd.C (Kd.int .u8) w A0 l0.length l0) (hc0 : l0.length ≤ c0) (hl : l0.length + s.size ≤ 140737488349000) :
    Calls Try.prog 23 #[.slice A0 l0.length c0, .string s] w fun e w' => ∃ v0_ : Value, e = .returned (v0_) ∧ Kd.R (Kd.int .u8) 5 w' w.heap.size (fun _ => True) v0_ (l0 ++ encT (bytesOf s)) ∧ Below w.heap.size w w' := by
  have HL : Aside0 ((enc (s.size : Int)).length ≤ 10) := ⟨enc_len ⟨by omega, by omega⟩⟩
  go_enter Try.func23, Try.ntmps23
  go_wp2_with (first
    | (go_at_call 24; refine (put_calls A0 c0 l0 (s.size : Int) w hr0 hc0 (by omega) (by omega) (by omega)).mono ?_; rintro e w1 ⟨v1, rfl, ho, hb⟩; have HB := Aside0.mk hb; have HO1 := Aside0.mk ho; clear ho hb)
    | ((with_reducible refine gate_builtin (b := .append) (xs := #[.tmp 8, .tmp 9]) rfl ?_); at_builtin; refine Gen.R_append_str (w0 := w) w.heap.size rfl (.tmp 8) (.tmp 9) 22 9 5 rfl Try.underlying22 Try.underlying9 info_u8 v1 (l0 ++ enc (s.size : Int)) s rfl rfl ?aO ?aB ?aS ?aL ?_; (case aB => exact (by repeat (first | (with_reducible first | exact HB.out | apply below_alloc | apply pw_below_drewN | apply below_drew1) | exact HB.out))); (case aO => exact (by (with_reducible repeat (first | apply Kd.R_alloc | apply Kd.R_drewN | apply Kd.R_drew)); exact HO1.out)); (case aS => exact (below_size (by repeat (first | (with_reducible first | exact HB.out | apply below_alloc | apply pw_below_drewN | apply below_drew1) | exact HB.out)))); (case aL => have := HL.out; simp only [List.length_append]; omega); intro v2 w2 ho hb hg; have n0_ := Aside0.mk (hb); have n1_ := Aside0.mk (ho); clear HB; clear HO1; have HB := n0_; have HO2 := n1_; clear n0_ n1_; clear ho hb hg))
  go_ret
  refine ⟨_, rfl, ?_, (by repeat (first | (with_reducible first | exact HB.out | apply below_alloc | apply pw_below_drewN | apply below_drew1) | exact HB.out))⟩
  unfold encT
  rw [bytesOf_length, ← List.append_assoc]
  exact (by (with_reducible repeat (first | apply Kd.R_alloc | apply Kd.R_drewN | apply Kd.R_drew)); exact HO2.out)

theorem refPut_calls (A0 : Option Addr) (c0 : Nat) (l0 : List Int) (a1 : Int) (w : World) (hr0 : Kd.C (Kd.int .u8) w A0 l0.length l0) (hc0 : l0.length ≤ c0) (h1 : -9223372036854775808 ≤ a1) (h2 : a1 ≤ 9223372036854775807) (hl : l0.length ≤ 140737488350000) :
    Calls Try.prog 14 #[.slice A0 l0.length c0, .int .i64 a1] w fun e w' => ∃ v0_ : Value, e = .returned (v0_) ∧ Kd.R (Kd.int .u8) 5 w' w.heap.size (fun _ => True) v0_ (l0 ++ enc a1) ∧ Below w.heap.size w w' := by
  have HR0 := Aside0.mk hr0
  have HC0 := Aside0.mk hc0
  clear hr0 hc0
  have HB := Aside0.mk (Below.refl w.heap.size w)
  have hz := zz_lt h1 h2
  have HL := Aside0.mk (enc_len ⟨h1, h2⟩)
  go_enter Try.func14, Try.ntmps14
  go_upto_if 11 with (fail)
  go_cut [5] (fun v5 wc => v5 = .int .u64 (zz a1 : Int) ∧ Aside0 (Below w.heap.size w wc))
  case first =>
    have hz' : (zz a1 : Int) = if a1 < 0 then 2 * -(a1 + 1) + 1 else 2 * a1 := by unfold zz; split <;> omega
    by_cases hn : a1 < 0
    · rw [if_pos hn] at hz'
      have HZ := Aside0.mk hz'
      clear hz'
      have hd : decide (a1 < 0) = true := decide_eq_true hn
      go_wp2
      go_meet
      case rel => exact ⟨by rw [HZ.out], HB⟩
    · rw [if_neg hn] at hz'
      have HZ := Aside0.mk hz'
      clear hz'
      have hd : decide (a1 < 0) = false := decide_eq_false hn
      go_wp2
      go_meet
      case rel => exact ⟨by rw [HZ.out]; first | rfl | (congr 1; simp only [IntKind.wrap_u64]; omega), HB⟩
  case rest =>
    obtain ⟨rfl, HB⟩ := hcut
    go_wp2_with (first
      | ((with_reducible refine gate_dst (N := 18) rfl ?_); refine Kd.R_lit (Kd.int .u8) (w0 := w) w.heap.size 5 ?hg (N := 18) ?hd (xs := []) (inner := []) (ok := fun _ => True) (okp := fun _ => True) ?hr ?hp (fun _ hk => hk) trivial ?hB ?hS (by simp) ?_; (case hd => rfl); (case hg => rfl); (case hr => first | (go_simp; done) | (go_simp; rfl)); (case hp => exact (Reps.none _ _)); (case hB => exact (by repeat (first | (with_reducible first | exact HB.out | apply below_alloc | apply pw_below_drewN | apply below_drew1) | exact HB.out))); (case hS => exact (below_size (by repeat (first | (with_reducible first | exact HB.out | apply below_alloc | apply pw_below_drewN | apply below_drew1) | exact HB.out)))); intro v1 w1 ho hb hg hat; have n0_ := Aside0.mk (hb); have n1_ := Aside0.mk (ho); clear HB; have HB := n0_; have HO1 := n1_; clear n0_ n1_; clear ho hb hg hat)
      | ((with_reducible refine gate_builtin (b := .append) (xs := #[.tmp 18, .tmp 19]) rfl ?_); at_builtin; refine Kd.R_append_rows (Kd.int .u8) (w0 := w) w.heap.size rfl (.tmp 18) (.tmp 19) 22 5 (.int .u8 0) 1 rfl Try.underlying22 info_u8 rfl (by decide) (by omega) v1 [] l0 _ _ _ (fun _ => True) (fun _ => False) rfl rfl ?aO ?aR (fun _ _ h => h) (fun _ h => h.elim) ?aF ?aB ?aS ?aL ?_; (case aR => exact (by repeat (first | exact (Kd.C_below HR0.out HB.out) | (with_reducible refine Kd.C_alloc ?_ _) | (with_reducible refine Kd.C_drewN ?_ _) | (with_reducible refine Kd.C_drew ?_)))); (case aB => exact (by repeat (first | (with_reducible first | exact HB.out | apply below_alloc | apply pw_below_drewN | apply below_drew1) | exact HB.out))); (case aF => exact (fun _ _ => trivial)); (case aO => exact (by (with_reducible repeat (first | apply Kd.R_alloc | apply Kd.R_drewN | apply Kd.R_drew)); exact HO1.out)); (case aS => exact (below_size (by repeat (first | (with_reducible first | exact HB.out | apply below_alloc | apply pw_below_drewN | apply below_drew1) | exact HB.out)))); (case aL => simp only [List.length_nil]; omega); intro v2 w2 ho hb hg hat; have n0_ := Aside0.mk (hb); have n1_ := Aside0.mk (ho); clear HB; clear HO1; have HB := n0_; have HO2 := n1_; clear n0_ n1_; clear ho hb hg hat))
    go_loopg [5, 6] (zz a1) (fun u v5 v6 w' => ∃ x : List Int, v5 = .int .u64 (u : Int) ∧ Aside0 (x ++ encN u = l0 ++ enc a1) ∧ Aside0 (u < 18446744073709551616) ∧ Aside0 (Kd.R (Kd.int .u8) 5 w' w.heap.size (fun _ => True) v6 x) ∧ Aside0 (Below w.heap.size w w'))
    case atStart => exact ⟨l0, rfl, ⟨rfl⟩, ⟨hz⟩, ⟨by simpa using (by (with_reducible repeat (first | apply Kd.R_alloc | apply Kd.R_drewN | apply Kd.R_drew)); exact HO2.out)⟩, ⟨(by repeat (first | (with_reducible first | exact HB.out | apply below_alloc | apply pw_below_drewN | apply below_drew1) | exact HB.out))⟩⟩
    case round =>
      obtain ⟨x, rfl, HE, HU, HO, HB⟩ := hrel
      have hu := HU.out
      have HX : Aside0 (x.length ≤ 140737488350020) := ⟨by
        have e := congrArg List.length HE.out
        simp only [List.length_append] at e
        have := HL.out; omega⟩
      by_cases hc : 128 ≤ gk
      · have hd : decide ((128 : Int) ≤ (gk : Int)) = true := decide_eq_true (by omega)
        go_wp2_with (first | ((with_reducible refine gate_builtin (b := .append) (xs := #[.tmp 23, .tmp 28]) rfl ?_); at_builtin; refine Kd.R_append (Kd.int .u8) (w0 := w) w.heap.size rfl (.tmp 23) (.tmp 28) 22 5 (.int .u8 0) 1 rfl Try.underlying22 info_u8 rfl (by decide) (by omega) u6 x (((gk : Int) % 128) + 128) [(.int .u8 (((gk : Int) % 128) + 128))] (fun _ => True) (fun _ => False) rfl rfl ?aP (fun _ hk => hk.elim) ?aF ?aO ?aB ?aS ?aL ?_; (case aP => exact rfl); (case aB => exact (by repeat (first | (with_reducible first | exact HB.out | apply below_alloc | apply pw_below_drewN | apply below_drew1) | exact HB.out))); (case aF => exact (fun _ _ => trivial)); (case aO => exact (by (with_reducible repeat (first | apply Kd.R_alloc | apply Kd.R_drewN | apply Kd.R_drew)); exact HO.out)); (case aS => exact (below_size (by repeat (first | (with_reducible first | exact HB.out | apply below_alloc | apply pw_below_drewN | apply below_drew1) | exact HB.out)))); (case aL => have := HX.out; omega); intro v8 w8 ho hb hg hat; have n0_ := Aside0.mk (hb); have n1_ := Aside0.mk (ho); clear HB; clear HO; have HB := n0_; have HO8 := n1_; clear n0_ n1_; clear ho hb hg hat))
        go_roundg (gk / 128)
        case measure => omega
        case rel =>
          refine ⟨_, rfl, ⟨?_⟩, ⟨by omega⟩, ⟨(by (with_reducible repeat (first | apply Kd.R_alloc | apply Kd.R_drewN | apply Kd.R_drew)); exact HO8.out)⟩, ⟨(by repeat (first | (with_reducible first | exact HB.out | apply below_alloc | apply pw_below_drewN | apply below_drew1) | exact HB.out))⟩⟩
          rw [← HE.out, encN_ge hc, List.append_assoc]; rfl
      · have hd : decide ((128 : Int) ≤ (gk : Int)) = false := decide_eq_false (by omega)
        go_wp2_with (first | ((with_reducible refine gate_builtin (b := .append) (xs := #[.tmp 32, .tmp 35]) rfl ?_); at_builtin; refine Kd.R_append (Kd.int .u8) (w0 := w) w.heap.size rfl (.tmp 32) (.tmp 35) 22 5 (.int .u8 0) 1 rfl Try.underlying22 info_u8 rfl (by decide) (by omega) u6 x ((gk : Int)) [(.int .u8 ((gk : Int)))] (fun _ => True) (fun _ => False) rfl rfl ?aP (fun _ hk => hk.elim) ?aF ?aO ?aB ?aS ?aL ?_; (case aP => exact rfl); (case aB => exact (by repeat (first | (with_reducible first | exact HB.out | apply below_alloc | apply pw_below_drewN | apply below_drew1) | exact HB.out))); (case aF => exact (fun _ _ => trivial)); (case aO => exact (by (with_reducible repeat (first | apply Kd.R_alloc | apply Kd.R_drewN | apply Kd.R_drew)); exact HO.out)); (case aS => exact (below_size (by repeat (first | (with_reducible first | exact HB.out | apply below_alloc | apply pw_below_drewN | apply below_drew1) | exact HB.out)))); (case aL => have := HX.out; omega); intro v8 w8 ho hb hg hat; have n0_ := Aside0.mk (hb); have n1_ := Aside0.mk (ho); clear HB; clear HO; have HB := n0_; have HO8 := n1_; clear n0_ n1_; clear ho hb hg hat))
        go_ret
        refine ⟨_, rfl, ?_, (by repeat (first | (with_reducible first | exact HB.out | apply below_alloc | apply pw_below_drewN | apply below_drew1) | exact HB.out))⟩
        have e : x ++ [(gk : Int)] = l0 ++ enc a1 := by rw [← HE.out, encN_lt (by omega)]
        rw [← e]
        exact (by (with_reducible repeat (first | apply Kd.R_alloc | apply Kd.R_drewN | apply Kd.R_drew)); exact HO8.out)
end Go.Proofs.Ytmnidohgnnpeiaa.Num
namespace Go.Proofs.Ytmnidohgnnpeiaa.Num
open Go.RowKit Go.Proofs.YtmnidohgnnpeiaaW.PrintWords Go.Proofs.YtmnidohgnnpeiaaW.PrintLast Go.Proofs.YtmnidohgnnpeiaaW.PrintMore
set_option linter.unusedVariables false
set_option linter.unusedSimpArgs false

theorem refPutText_calls (A0 : Option Addr) (c0 : Nat) (l0 : List Int) (s : ByteArray) (w : World) (hr0 : Kd.C (Kd.int .u8) w A0 l0.length l0) (hc0 : l0.length ≤ c0) (hl : l0.length + s.size ≤ 140737488349000) :
    Calls Try.prog 26 #[.slice A0 l0.length c0, .string s] w fun e w' => ∃ v0_ : Value, e = .returned (v0_) ∧ Kd.R (Kd.int .u8) 5 w' w.heap.size (fun _ => True) v0_ (l0 ++ encT (bytesOf s)) ∧ Below w.heap.size w w' := by
  have HL : Aside0 ((enc (s.size : Int)).length ≤ 10) := ⟨enc_len ⟨by omega, by omega⟩⟩
  go_enter Try.func26, Try.ntmps26
  go_wp2_with (first
    | (go_at_call 14; refine (refPut_calls A0 c0 l0 (s.size : Int) w hr0 hc0 (by omega) (by omega) (by omega)).mono ?_; rintro e w1 ⟨v1, rfl, ho, hb⟩; have HB := Aside0.mk hb; have HO1 := Aside0.mk ho; clear ho hb)
    | ((with_reducible refine gate_dst (N := 10) rfl ?_); refine Gen.ev_bytes (w0 := w) w.heap.size rfl 9 22 5 (.tmp 9) rfl Try.underlying9 Try.underlying22 Try.underlying5 s rfl (by omega) (by repeat (first | (with_reducible first | exact HB.out | apply below_alloc | apply pw_below_drewN | apply below_drew1) | exact HB.out)) (below_size (by repeat (first | (with_reducible first | exact HB.out | apply below_alloc | apply pw_below_drewN | apply below_drew1) | exact HB.out))) ?_; intro A c w2 hr hc hb hb2; have HR2 := Aside0.mk hr; have HC2 := Aside0.mk hc; have n1_ := Aside0.mk (Kd.R_below HO1.out hb2); clear HB HO1 hr hc hb2; have HB := Aside0.mk hb; have HO1 := n1_; clear hb n1_)
    | ((with_reducible refine gate_builtin (b := .append) (xs := #[.tmp 8, .tmp 10]) rfl ?_); at_builtin; refine Kd.R_append_rows (Kd.int .u8) (w0 := w) w.heap.size rfl (.tmp 8) (.tmp 10) 22 5 (.int .u8 0) 1 rfl Try.underlying22 info_u8 rfl (by decide) (by omega) v1 (l0 ++ enc (s.size : Int)) (bytesOf s) _ _ _ (fun _ => True) (fun _ => False) rfl rfl ?aO ?aR (fun _ _ h => h) (fun _ h => h.elim) ?aF ?aB ?aS ?aL ?_; (case aR => exact HR2.out); (case aB => exact (by repeat (first | (with_reducible first | exact HB.out | apply below_alloc | apply pw_below_drewN | apply below_drew1) | exact HB.out))); (case aF => exact (fun _ _ => trivial)); (case aO => exact (by (with_reducible repeat (first | apply Kd.R_alloc | apply Kd.R_drewN | apply Kd.R_drew)); exact HO1.out)); (case aS => exact (below_size (by repeat (first | (with_reducible first | exact HB.out | apply below_alloc | apply pw_below_drewN | apply below_drew1) | exact HB.out)))); (case aL => have := HL.out; simp only [List.length_append]; omega); intro v3 w3 ho hb hg hat; have n0_ := Aside0.mk (hb); have n1_ := Aside0.mk (ho); clear HB; clear HO1; have HB := n0_; have HO3 := n1_; clear n0_ n1_; clear ho hb hg hat))

  go_ret
  refine ⟨_, rfl, ?_, (by repeat (first | (with_reducible first | exact HB.out | apply below_alloc | apply pw_below_drewN | apply below_drew1) | exact HB.out))⟩
  unfold encT
  rw [bytesOf_length, ← List.append_assoc]
  exact (by (with_reducible repeat (first | apply Kd.R_alloc | apply Kd.R_drewN | apply Kd.R_drew)); exact HO3.out)

end Go.Proofs.Ytmnidohgnnpeiaa.Num
namespace Go.Proofs.Ytmnidohgnnpeiaa.Prt
open Go.RowKit Go.Proofs.YtmnidohgnnpeiaaW.PrintWords Go.Proofs.YtmnidohgnnpeiaaW.PrintLast Go.Proofs.YtmnidohgnnpeiaaW.PrintMore Go.Proofs.Ytmnidohgnnpeiaa.Num
set_option linter.unusedVariables false
set_option linter.unusedSimpArgs false

def num_Put.f (l0 : List Int) (a1 : Int) : Option (List Int) := if l0.length ≤ 140737488350000 ∧ -9223372036854775808 ≤ a1 ∧ a1 ≤ 9223372036854775807 then some (l0 ++ enc a1) else none
theorem num_Put.calls (A0 : Option Addr) (c0 : Nat) (l0 : List Int) (a1 : Int) (r : List Int) (w : World) (hr0 : Kd.C (Kd.int .u8) w A0 l0.length l0) (hc0 : l0.length ≤ c0) (h : num_Put.f l0 a1 = some r) :
    Calls Try.prog 24 #[.slice A0 l0.length c0, .int .i64 a1] w fun e w' => ∃ v0_ : Value, e = .returned (v0_) ∧ Kd.R (Kd.int .u8) 5 w' w.heap.size (fun _ => True) v0_ r ∧ Below w.heap.size w w' := by
  unfold num_Put.f at h
  by_cases hc : l0.length ≤ 140737488350000 ∧ -9223372036854775808 ≤ a1 ∧ a1 ≤ 9223372036854775807
  · rw [if_pos hc] at h
    obtain rfl := Option.some.inj h
    exact put_calls A0 c0 l0 a1 w hr0 hc0 hc.2.1 hc.2.2 hc.1
  · rw [if_neg hc] at h; cases h
def registrarref01_Put.f (l0 : List Int) (a1 : Int) : Option (List Int) := if l0.length ≤ 140737488350000 ∧ -9223372036854775808 ≤ a1 ∧ a1 ≤ 9223372036854775807 then some (l0 ++ enc a1) else none
theorem registrarref01_Put.calls (A0 : Option Addr) (c0 : Nat) (l0 : List Int) (a1 : Int) (r : List Int) (w : World) (hr0 : Kd.C (Kd.int .u8) w A0 l0.length l0) (hc0 : l0.length ≤ c0) (h : registrarref01_Put.f l0 a1 = some r) :
    Calls Try.prog 14 #[.slice A0 l0.length c0, .int .i64 a1] w fun e w' => ∃ v0_ : Value, e = .returned (v0_) ∧ Kd.R (Kd.int .u8) 5 w' w.heap.size (fun _ => True) v0_ r ∧ Below w.heap.size w w' := by
  unfold registrarref01_Put.f at h
  by_cases hc : l0.length ≤ 140737488350000 ∧ -9223372036854775808 ≤ a1 ∧ a1 ≤ 9223372036854775807
  · rw [if_pos hc] at h
    obtain rfl := Option.some.inj h
    exact refPut_calls A0 c0 l0 a1 w hr0 hc0 hc.2.1 hc.2.2 hc.1
  · rw [if_neg hc] at h; cases h
def num_PutText.f (l0 : List Int) (a1 : ByteArray) : Option (List Int) := if l0.length + a1.size ≤ 140737488349000 then some (l0 ++ encT (bytesOf a1)) else none
theorem num_PutText.calls (A0 : Option Addr) (c0 : Nat) (l0 : List Int) (a1 : ByteArray) (r : List Int) (w : World) (hr0 : Kd.C (Kd.int .u8) w A0 l0.length l0) (hc0 : l0.length ≤ c0) (h : num_PutText.f l0 a1 = some r) :
    Calls Try.prog 23 #[.slice A0 l0.length c0, .string a1] w fun e w' => ∃ v0_ : Value, e = .returned (v0_) ∧ Kd.R (Kd.int .u8) 5 w' w.heap.size (fun _ => True) v0_ r ∧ Below w.heap.size w w' := by
  unfold num_PutText.f at h
  by_cases hc : l0.length + a1.size ≤ 140737488349000
  · rw [if_pos hc] at h
    obtain rfl := Option.some.inj h
    exact putText_calls A0 c0 l0 a1 w hr0 hc0 hc
  · rw [if_neg hc] at h; cases h
def registrarref01_PutText.f (l0 : List Int) (a1 : ByteArray) : Option (List Int) := if l0.length + a1.size ≤ 140737488349000 then some (l0 ++ encT (bytesOf a1)) else none
theorem registrarref01_PutText.calls (A0 : Option Addr) (c0 : Nat) (l0 : List Int) (a1 : ByteArray) (r : List Int) (w : World) (hr0 : Kd.C (Kd.int .u8) w A0 l0.length l0) (hc0 : l0.length ≤ c0) (h : registrarref01_PutText.f l0 a1 = some r) :
    Calls Try.prog 26 #[.slice A0 l0.length c0, .string a1] w fun e w' => ∃ v0_ : Value, e = .returned (v0_) ∧ Kd.R (Kd.int .u8) 5 w' w.heap.size (fun _ => True) v0_ r ∧ Below w.heap.size w w' := by
  unfold registrarref01_PutText.f at h
  by_cases hc : l0.length + a1.size ≤ 140737488349000
  · rw [if_pos hc] at h
    obtain rfl := Option.some.inj h
    exact refPutText_calls A0 c0 l0 a1 w hr0 hc0 hc
  · rw [if_neg hc] at h; cases h
end Go.Proofs.Ytmnidohgnnpeiaa.Prt

/- Functions of the program, told as plain functions, with their walks: written by a program of this claim's out of the translation. Events as bytes, and rows of events that are the same: in closed form. Events as bytes are told apart. What is taken is what was laid down: events, one and all. evcode.All: its walk. The contract of evcode.All, in the form that the printed functions ask. Rows of events as bytes. What is wrong with a batch: the walk of batch.May. Batches as bytes: in closed form. The reference's batches as bytes: in closed form. The reference's batches as bytes: in closed form: Put. -/
import Derived.WalkMore
import Derived.Test.YtafeakcajhhkoaaYBatchParts1
import Derived.Test.YtafeakcajhhkoaaYBatchParts2
namespace Go.Proofs.Ytafeakcajhhkoaa.Prt
open Go.RowKit Go.Proofs.YtafeakcajhhkoaaW.PrintWords Go.Proofs.YtafeakcajhhkoaaW.PrintLast Go.Proofs.YtafeakcajhhkoaaW.PrintMore
attribute [local go_sem] max2_int min2_int max_two min_two max_three min_three max_four min_four   -- for this text's walks alone
set_option linter.unusedVariables false
set_option linter.unusedSimpArgs false

mutual
def evcode_Put.l0 : Nat → List Int → List ByteArray → Int → Int → ByteArray → ByteArray → List ByteArray → List (S50) → Option (List Int × Int)
  | 0, _, _, _, _, _, _, _, _ => none
  | k + 1, x7, x30, x31, x32, x110000, x110001, x110002, x110003 => if x32 < x31 then (if 0 ≤ x32 then (if x32 < (x30.length : Int) then ((num_PutText.f x7 (rdOf ByteArray.empty x30 x32)).bind fun t121 => (evcode_Put.l0 k t121 x30 x31 (wrap64 (x32 + 1)) x110000 x110001 x110002 x110003)) else (none)) else (none)) else ((num_Put.f x7 (x110003.length : Int)).bind fun t124 => (evcode_Put.l1 k t124 x110003 (x110003.length : Int) 0))
def evcode_Put.l1 : Nat → List Int → List (S50) → Int → Int → Option (List Int × Int)
  | 0, _, _, _, _ => none
  | k + 1, x7, x46, x47, x48 => if x48 < x47 then (if 0 ≤ x48 then (if x48 < (x46.length : Int) then ((num_PutText.f x7 ((rd_T50 x46 x48).f0)).bind fun t129 => ((num_Put.f t129 ((rd_T50 x46 x48).f1)).bind fun t132 => (evcode_Put.l1 k t132 x46 x47 (wrap64 (x48 + 1))))) else (none)) else (none)) else (some (x7, 0))
end
def evcode_Put.f (k : Nat) (l0 : List Int) (a1_0 : ByteArray) (a1_1 : ByteArray) (l1_2 : List ByteArray) (l1_3 : List (S50)) : Option (List Int × Int) := (event_May.f a1_0 a1_1 l1_2 l1_3).bind fun t110 => (if t110 = 0 then ((num_PutText.f l0 a1_0).bind fun t111 => ((num_PutText.f t111 a1_1).bind fun t114 => ((num_Put.f t114 (l1_2.length : Int)).bind fun t117 => (evcode_Put.l0 k t117 l1_2 (l1_2.length : Int) 0 a1_0 a1_1 l1_2 l1_3)))) else (some (([] : List Int), t110)))
def evcode_Put.T4 : Bool × List (List Nat × List Nat) := (true, [([], []), ([], []), ([1], [1]), ([0, 2], [0, 2]), ([], []), ([4], [4]), ([3, 5, 3], [3, 5]), ([6, 6, 0, 1, 2, 3, 4, 5, 6], [6])])
def evcode_Put.B4 : List Nat := [0, 0, 2, 7, 0, 16, 63, 127]
theorem evcode_Put.tab4 : rtab .any (opsOf Try.f17 4) = evcode_Put.T4 := by kernel_rfl
theorem evcode_Put.bits4 : waitsOk evcode_Put.T4.2 evcode_Put.B4 = true := by kernel_rfl
def evcode_Put.T15 : Bool × List (List Nat × List Nat) := (true, [([], []), ([], []), ([1], [1]), ([0, 2], [0, 2]), ([], []), ([4], [4]), ([3, 5, 3], [3, 5]), ([6, 6, 0, 1, 2, 3, 4, 5, 6], [0, 6])])
def evcode_Put.B15 : List Nat := [0, 0, 2, 7, 0, 16, 63, 127]
theorem evcode_Put.tab15 : rtab .any (opsOf Try.f17 15) = evcode_Put.T15 := by kernel_rfl
theorem evcode_Put.bits15 : waitsOk evcode_Put.T15.2 evcode_Put.B15 = true := by kernel_rfl
set_option maxHeartbeats 8000000 in
set_option maxRecDepth 100000 in
theorem evcode_Put.calls (k : Nat) (A0 : Option Addr) (c0 : Nat) (l0 : List Int) (a1_0 : ByteArray) (a1_1 : ByteArray) (A1_2 : Option Addr) (c1_2 : Nat) (l1_2 : List ByteArray) (A1_3 : Option Addr) (c1_3 : Nat) (l1_3 : List (S50)) (r1 : List Int) (r2 : Int) (w : World) (hr0 : Kd.C (Kd.int .u8) w A0 l0.length l0) (hc0 : l0.length ≤ c0) (hr1_2 : Kd.C Kd.string w A1_2 l1_2.length l1_2) (hc1_2 : l1_2.length ≤ c1_2) (hr1_3 : Kd.C k50 w A1_3 l1_3.length l1_3) (hc1_3 : l1_3.length ≤ c1_3) (h : evcode_Put.f k l0 a1_0 a1_1 l1_2 l1_3 = some (r1, r2)) :
    Calls Try.prog 17 #[.slice A0 l0.length c0, .agg #[.string a1_0, .string a1_1, .slice A1_2 l1_2.length c1_2, .slice A1_3 l1_3.length c1_3]] w fun e w' => ∃ v0_ : Value, e = .returned (.tuple #[v0_, .int .i64 r2]) ∧ Kd.R (Kd.int .u8) 5 w' w.heap.size (fun _ => True) v0_ r1 ∧ Below w.heap.size w w' := by
  have hu40 := Try.underlying40
  have hu50 := Try.underlying50
  have HR0 := Aside0.mk hr0
  have HC0 := Aside0.mk hc0
  clear hr0 hc0
  have HR1_2 := Aside0.mk hr1_2
  have HC1_2 := Aside0.mk hc1_2
  clear hr1_2 hc1_2
  have HR1_3 := Aside0.mk hr1_3
  have HC1_3 := Aside0.mk hc1_3
  clear hr1_3 hc1_3
  have HB := Aside0.mk (Below.refl w.heap.size w)
  have H : ((event_May.f a1_0 a1_1 l1_2 l1_3).bind fun t110 => (if t110 = 0 then ((num_PutText.f l0 a1_0).bind fun t111 => ((num_PutText.f t111 a1_1).bind fun t114 => ((num_Put.f t114 (l1_2.length : Int)).bind fun t117 => (evcode_Put.l0 k t117 l1_2 (l1_2.length : Int) 0 a1_0 a1_1 l1_2 l1_3)))) else (some (([] : List Int), t110)))) = some (r1, r2) := h
  clear h
  replace H := Option.bind_eq_some_iff.mp H
  obtain ⟨t110, A30, H⟩ := H
  replace H : (if t110 = 0 then ((num_PutText.f l0 a1_0).bind fun t111 => ((num_PutText.f t111 a1_1).bind fun t114 => ((num_Put.f t114 (l1_2.length : Int)).bind fun t117 => (evcode_Put.l0 k t117 l1_2 (l1_2.length : Int) 0 a1_0 a1_1 l1_2 l1_3)))) else (some (([] : List Int), t110))) = some (r1, r2) := H
  have A3 := Aside0.mk A30
  clear A30
  by_cases c4 : t110 = 0
  · rw [if_pos c4] at H
    have c4b0 : (t110 == 0) = true := beq_iff_eq.mpr c4
    have c4b1 : (t110 != 0) = false := bne_eq_false_iff_eq.mpr c4
    clear c4
    replace H := Option.bind_eq_some_iff.mp H
    obtain ⟨t111, A50, H⟩ := H
    replace H : ((num_PutText.f t111 a1_1).bind fun t114 => ((num_Put.f t114 (l1_2.length : Int)).bind fun t117 => (evcode_Put.l0 k t117 l1_2 (l1_2.length : Int) 0 a1_0 a1_1 l1_2 l1_3))) = some (r1, r2) := H
    have A5 := Aside0.mk A50
    clear A50
    replace H := Option.bind_eq_some_iff.mp H
    obtain ⟨t114, A60, H⟩ := H
    replace H : ((num_Put.f t114 (l1_2.length : Int)).bind fun t117 => (evcode_Put.l0 k t117 l1_2 (l1_2.length : Int) 0 a1_0 a1_1 l1_2 l1_3)) = some (r1, r2) := H
    have A6 := Aside0.mk A60
    clear A60
    replace H := Option.bind_eq_some_iff.mp H
    obtain ⟨t117, A70, H⟩ := H
    replace H : (evcode_Put.l0 k t117 l1_2 (l1_2.length : Int) 0 a1_0 a1_1 l1_2 l1_3) = some (r1, r2) := H
    have A7 := Aside0.mk A70
    clear A70
    have H' := Aside0.mk H
    clear H
    go_enter Try.func17, Try.ntmps17
    try go_wp2_with (first | ((with_reducible refine gate_dst (N := 3) rfl ?_); refine box_event ?hg (N := 3) ?hd (cs := #[.string a1_0, .string a1_1, .slice A1_2 l1_2.length c1_2, .slice A1_3 l1_3.length c1_3]) (t := 40) ?hr ?_; (case hd => rfl); (case hg => rfl); (case hr => first | (go_simp; done) | (go_simp; rfl)); intro gb109 hg w8 hbox hb; have n0_ := Aside0.mk (below_step (by repeat (first | (with_reducible first | exact HB.out | apply below_alloc | apply pw_below_drewN | apply below_drew1) | exact HB.out)) hb); have n1_ := Aside0.mk (hbox); have n2_ := Aside0.mk ((by rw [hg]; exact (below_size (by repeat (first | (with_reducible first | exact HB.out | apply below_alloc | apply pw_below_drewN | apply below_drew1) | exact HB.out))) : w.heap.size ≤ gb109)); have n3_ := Aside0.mk ((by rw [hg]; exact (below_size (by repeat (first | (with_reducible first | exact HB.out | apply below_alloc | apply pw_below_drewN | apply below_drew1) | exact HB.out))) : w.heap.size ≤ gb109)); clear HB; have HB := n0_; have BK109 := n1_; have GW109 := n2_; have GE109 := n3_; clear n0_ n1_ n2_ n3_; clear hb hbox hg; have hcz9_0 : w8.cell? ⟨gb109, 0, none⟩ = some (.string a1_0) := (blk_cell BK109.out 0).trans rfl; have hcz9_1 : w8.cell? ⟨gb109, 1, none⟩ = some (.string a1_1) := (blk_cell BK109.out 1).trans rfl; have hcz9_2 : w8.cell? ⟨gb109, 2, none⟩ = some (.slice A1_2 l1_2.length c1_2) := (blk_cell BK109.out 2).trans rfl; have hcz9_3 : w8.cell? ⟨gb109, 3, none⟩ = some (.slice A1_3 l1_3.length c1_3) := (blk_cell BK109.out 3).trans rfl; have hfz9_0 := blk_frozen BK109.out 0; have hfz9_1 := blk_frozen BK109.out 1; have hfz9_2 := blk_frozen BK109.out 2; have hfz9_3 := blk_frozen BK109.out 3) | ((with_reducible refine gate_callee (f := 22) rfl ?_); refine goesL_ (some 13) rfl rfl Try.func22 (by kernel_rfl) rfl #[.agg #[.string a1_0, .string a1_1, .slice A1_2 l1_2.length c1_2, .slice A1_3 l1_3.length c1_3]] rfl (by (try simp only [List.map_toArray, List.map_cons, List.map_nil]); first | done | rfl | (simp only [List.length_drop, List.length_take]; rfl)) ?_; (with_reducible refine (event_May.calls a1_0 a1_1 _ _ l1_2 _ _ l1_3 t110 _ ?side1 ?side2 ?side3 ?side4 A3.out).mono ?_); (case side1 => repeat (first | exact (Kd.C_below HR1_2.out HB.out) | (with_reducible refine Kd.C_alloc ?_ _) | (with_reducible refine Kd.C_drewN ?_ _) | (with_reducible refine Kd.C_drew ?_))); (case side2 => exact HC1_2.out); (case side3 => repeat (first | exact (Kd.C_below HR1_3.out HB.out) | (with_reducible refine Kd.C_alloc ?_ _) | (with_reducible refine Kd.C_drewN ?_ _) | (with_reducible refine Kd.C_drew ?_))); (case side4 => exact HC1_3.out); rintro e w10 ⟨rfl, hb⟩; refine ⟨_, rfl, ?_⟩; have n0_ := Aside0.mk (blk_below (g := gb109) (o := .cells #[.string a1_0, .string a1_1, .slice A1_2 l1_2.length c1_2, .slice A1_3 l1_3.length c1_3] 40 (0, 0)) (by (with_reducible repeat (first | refine blk_drewN ?_ _ | refine blk_drew ?_ | refine blk_alloc ?_ _)); exact BK109.out) hb); have n1_ := Aside0.mk (below_step (by repeat (first | (with_reducible first | exact HB.out | apply below_alloc | apply pw_below_drewN | apply below_drew1 | refine below_set ?_ GE109.out) | exact HB.out)) hb); clear BK109; clear HB; have BK109 := n0_; have HB := n1_; clear n0_ n1_; (try clear hb); (try clear hb2); (try clear hk); (try clear hi)))
    have n0_ := Aside0.mk (blk_drew BK109.out)
    have n1_ := Aside0.mk (below_drew1 HB.out)
    clear BK109
    clear HB
    have BK109 := n0_
    have HB := n1_
    clear n0_ n1_
    refine start_ (n := 8) (S := fun w' => w'.cell? ⟨gb109, 0, none⟩ = some (.string a1_0) ∧ w'.cell? ⟨gb109, 1, none⟩ = some (.string a1_1) ∧ w'.cell? ⟨gb109, 2, none⟩ = some (.slice A1_2 l1_2.length c1_2) ∧ w'.cell? ⟨gb109, 3, none⟩ = some (.slice A1_3 l1_3.length c1_3)) (ds := []) #[false, false, false, false, false, false, false, false] (by kernel_rfl) rfl rfl ⟨(blk_cell BK109.out 0).trans rfl, (blk_cell BK109.out 1).trans rfl, (blk_cell BK109.out 2).trans rfl, (blk_cell BK109.out 3).trans rfl⟩ (fun hHeld => ?_); refine with_tabW evcode_Put.tab4 evcode_Put.bits4 (fun HT_ HW_ => ?_)
    generalize w10.drew = w11 at BK109 HB hHeld ⊢
    refine pure_ (i := 0) (N := some 17) (v := ?_) (a' := ?_) #[true, false, false, false, false, false, false, false] rfl rfl (any_of HT_.out (by kernel_rfl)) (fun _ _ _ h => h) (Or.inl ⟨by rfl, ?_⟩) ?_ ?_
    rotate_left
    · intro w'
      go_simp
      with_reducible rfl
    rotate_left
    · simp only [Act.put, List.setIfInBounds_toArray, List.set_cons_zero, List.set_cons_succ, i64_w, i32_w]
      rfl
    refine pure_ (i := 1) (N := some 18) (v := ?_) (a' := ?_) #[true, true, false, false, false, false, false, false] rfl rfl (any_of HT_.out (by kernel_rfl)) (fun _ _ _ h => h) (Or.inl ⟨by rfl, ?_⟩) ?_ ?_
    rotate_left
    · intro w'
      go_simp
      with_reducible rfl
    rotate_left
    · simp only [Act.put, List.setIfInBounds_toArray, List.set_cons_zero, List.set_cons_succ, i64_w, i32_w]
      rfl
    refine pure_ (i := 4) (N := some 21) (v := ?_) (a' := ?_) #[true, true, false, false, true, false, false, false] rfl rfl (any_of HT_.out (by kernel_rfl)) (fun _ _ _ h => h) (Or.inl ⟨by rfl, ?_⟩) ?_ ?_
    rotate_left
    · intro w'
      go_simp
      with_reducible rfl
    rotate_left
    · simp only [Act.put, List.setIfInBounds_toArray, List.set_cons_zero, List.set_cons_succ, i64_w, i32_w]
      rfl
    refine take_ (i := 2) (N := some 19) (v := ?_) (a' := ?_) #[true, true, true, false, true, false, false, false] rfl rfl (take_ofW HT_.out HW_.out (by kernel_rfl)) (fun _ _ _ h => h) (Or.inl ⟨by rfl, ?_⟩) hHeld ?_ ?_
    rotate_left
    · rintro w' ⟨s0, s1, s2, s3⟩
      go_simp
      with_reducible rfl
    rotate_left
    · simp only [Act.put, List.setIfInBounds_toArray, List.set_cons_zero, List.set_cons_succ, i64_w, i32_w]
      rfl
    refine take_ (i := 5) (N := some 22) (v := ?_) (a' := ?_) #[true, true, true, false, true, true, false, false] rfl rfl (take_ofW HT_.out HW_.out (by kernel_rfl)) (fun _ _ _ h => h) (Or.inl ⟨by rfl, ?_⟩) hHeld ?_ ?_
    rotate_left
    · rintro w' ⟨s0, s1, s2, s3⟩
      go_simp
      with_reducible rfl
    rotate_left
    · simp only [Act.put, List.setIfInBounds_toArray, List.set_cons_zero, List.set_cons_succ, i64_w, i32_w]
      rfl
    refine one_ (i := 3) (N := some 20) #[true, true, true, true, true, true, false, false] rfl rfl (one_of HT_.out (by kernel_rfl)) (by decide) (fun K hK => ?_)
    refine goes_ Try.func25 (by kernel_rfl) rfl #[.slice A0 l0.length c0, .string a1_0] (by rfl) rfl rfl (by (try simp only [List.map_toArray, List.map_cons, List.map_nil]); first | done | rfl | (simp only [List.length_drop, List.length_take]; rfl)) ?_
    with_reducible refine (num_PutText.calls _ _ l0 a1_0 t111 _ ?side1 ?side2 A5.out).mono ?_
    (case side1 => repeat (first | exact (Kd.C_below HR0.out HB.out) | (with_reducible refine Kd.C_alloc ?_ _) | (with_reducible refine Kd.C_drewN ?_ _) | (with_reducible refine Kd.C_drew ?_)))
    (case side2 => exact HC0.out)
    rintro e w12 ⟨v112, rfl, ho0, hb⟩
    refine ⟨_, rfl, ?_⟩
    have n0_ := Aside0.mk (Kd.R_lower ho0 (below_size (by repeat (first | (with_reducible first | exact HB.out | apply below_alloc | apply pw_below_drewN | apply below_drew1 | refine below_set ?_ GE109.out) | exact HB.out))))
    have n1_ := Aside0.mk (blk_below (g := gb109) (o := .cells #[.string a1_0, .string a1_1, .slice A1_2 l1_2.length c1_2, .slice A1_3 l1_3.length c1_3] 40 (0, 0)) (by (with_reducible repeat (first | refine blk_drewN ?_ _ | refine blk_drew ?_ | refine blk_alloc ?_ _)); exact BK109.out) hb)
    have n2_ := Aside0.mk (below_step (by repeat (first | (with_reducible first | exact HB.out | apply below_alloc | apply pw_below_drewN | apply below_drew1 | refine below_set ?_ GE109.out) | exact HB.out)) hb)
    clear BK109
    clear HB
    have HO113 := n0_
    have BK109 := n1_
    have HB := n2_
    clear n0_ n1_ n2_
    (try clear hb)
    (try clear hb2)
    (try clear hk)
    (try clear hi)
    (try clear ho0)
    obtain ⟨Ao13, co13, eo13⟩ := Kd.R_slice HO113.out
    (first | subst eo13 | (injection eo13 with f1_ f2_ f3_; have f4_ := f1_.symm; have f5_ := f3_.symm; clear f1_ f2_ f3_; subst f4_; subst f5_))
    refine hK.out _ _ ⟨(blk_cell BK109.out 0).trans rfl, (blk_cell BK109.out 1).trans rfl, (blk_cell BK109.out 2).trans rfl, (blk_cell BK109.out 3).trans rfl⟩ (fun hHeld => ?_)
    clear hK K
    refine norm_ (a' := ?_) ?_ ?_
    rotate_left
    · show Act.put _ (some 20) _ = _
      simp only [Act.put, List.setIfInBounds_toArray, List.set_cons_zero, List.set_cons_succ, i64_w, i32_w]
      rfl
    refine one_ (i := 6) (N := some 23) #[true, true, true, true, true, true, true, false] rfl rfl (one_of HT_.out (by kernel_rfl)) (by decide) (fun K hK => ?_)
    refine goes_ Try.func25 (by kernel_rfl) rfl #[.slice Ao13 t111.length co13, .string a1_1] (by rfl) rfl rfl (by (try simp only [List.map_toArray, List.map_cons, List.map_nil]); first | done | rfl | (simp only [List.length_drop, List.length_take]; rfl)) ?_
    with_reducible refine (num_PutText.calls _ _ t111 a1_1 t114 _ ?side1 ?side2 A6.out).mono ?_
    (case side1 => repeat (first | exact (Kd.R_reads' HO113.out).2.2 | (with_reducible refine Kd.C_alloc ?_ _) | (with_reducible refine Kd.C_drewN ?_ _) | (with_reducible refine Kd.C_drew ?_)))
    (case side2 => exact (Kd.R_reads' HO113.out).2.1)
    rintro e w14 ⟨v115, rfl, ho0, hb⟩
    refine ⟨_, rfl, ?_⟩
    have n0_ := Aside0.mk (Kd.R_elder' (by (with_reducible repeat (first | apply Kd.R_alloc | apply Kd.R_drewN | apply Kd.R_drew)); exact HO113.out) (Kd.R_base ho0) hb)
    have n1_ := Aside0.mk (Kd.R_lower (Kd.R_new' ho0 (Kd.R_lt (by (with_reducible repeat (first | apply Kd.R_alloc | apply Kd.R_drewN | apply Kd.R_drew)); exact HO113.out))) (below_size (by repeat (first | (with_reducible first | exact HB.out | apply below_alloc | apply pw_below_drewN | apply below_drew1 | refine below_set ?_ GE109.out) | exact HB.out))))
    have n2_ := Aside0.mk (blk_below (g := gb109) (o := .cells #[.string a1_0, .string a1_1, .slice A1_2 l1_2.length c1_2, .slice A1_3 l1_3.length c1_3] 40 (0, 0)) (by (with_reducible repeat (first | refine blk_drewN ?_ _ | refine blk_drew ?_ | refine blk_alloc ?_ _)); exact BK109.out) hb)
    have n3_ := Aside0.mk (below_step (by repeat (first | (with_reducible first | exact HB.out | apply below_alloc | apply pw_below_drewN | apply below_drew1 | refine below_set ?_ GE109.out) | exact HB.out)) hb)
    clear HO113
    clear BK109
    clear HB
    have HO113 := n0_
    have HO116 := n1_
    have BK109 := n2_
    have HB := n3_
    clear n0_ n1_ n2_ n3_
    (try clear hb)
    (try clear hb2)
    (try clear hk)
    (try clear hi)
    (try clear ho0)
    refine hK.out _ _ ⟨(blk_cell BK109.out 0).trans rfl, (blk_cell BK109.out 1).trans rfl, (blk_cell BK109.out 2).trans rfl, (blk_cell BK109.out 3).trans rfl⟩ (fun hHeld => ?_)
    clear hK K
    refine norm_ (a' := ?_) ?_ ?_
    rotate_left
    · show Act.put _ (some 23) _ = _
      simp only [Act.put, List.setIfInBounds_toArray, List.set_cons_zero, List.set_cons_succ, i64_w, i32_w]
      rfl
    refine pure_ (i := 7) (N := some 7) (v := ?_) (a' := ?_) #[true, true, true, true, true, true, true, true] rfl rfl (any_of HT_.out (by kernel_rfl)) (fun _ _ _ h => h) (Or.inl ⟨by rfl, ?_⟩) ?_ ?_
    rotate_left
    · intro w'
      go_simp
      with_reducible rfl
    rotate_left
    · simp only [Act.put, List.setIfInBounds_toArray, List.set_cons_zero, List.set_cons_succ, i64_w, i32_w]
      rfl
    refine done_ (done_of HT_.out (by kernel_rfl)) ?_
    have hcz15_0 : w14.cell? ⟨gb109, 0, none⟩ = some (.string a1_0) := (blk_cell BK109.out 0).trans rfl
    have hcz15_1 : w14.cell? ⟨gb109, 1, none⟩ = some (.string a1_1) := (blk_cell BK109.out 1).trans rfl
    have hcz15_2 : w14.cell? ⟨gb109, 2, none⟩ = some (.slice A1_2 l1_2.length c1_2) := (blk_cell BK109.out 2).trans rfl
    have hcz15_3 : w14.cell? ⟨gb109, 3, none⟩ = some (.slice A1_3 l1_3.length c1_3) := (blk_cell BK109.out 3).trans rfl
    have hfz15_0 := blk_frozen BK109.out 0
    have hfz15_1 := blk_frozen BK109.out 1
    have hfz15_2 := blk_frozen BK109.out 2
    have hfz15_3 := blk_frozen BK109.out 3
    obtain ⟨Ao16, co16, eo16⟩ := Kd.R_slice HO116.out
    subst eo16
    try go_wp2_with (first | ((with_reducible refine gate_callee (f := 20) rfl ?_); refine goesL_ (some 28) rfl rfl Try.func20 (by kernel_rfl) rfl #[.slice Ao16 t114.length co16, .int .i64 (l1_2.length : Int)] rfl (by (try simp only [List.map_toArray, List.map_cons, List.map_nil]); first | done | rfl | (simp only [List.length_drop, List.length_take]; rfl)) ?_; (with_reducible refine (num_Put.calls _ _ t114 (l1_2.length : Int) t117 _ ?side1 ?side2 A7.out).mono ?_); (case side1 => repeat (first | exact (Kd.R_reads' HO116.out).2.2 | (with_reducible refine Kd.C_alloc ?_ _) | (with_reducible refine Kd.C_drewN ?_ _) | (with_reducible refine Kd.C_drew ?_))); (case side2 => exact (Kd.R_reads' HO116.out).2.1); rintro e w17 ⟨v118, rfl, ho0, hb⟩; refine ⟨_, rfl, ?_⟩; have n0_ := Aside0.mk (Kd.R_elder' (by (with_reducible repeat (first | apply Kd.R_alloc | apply Kd.R_drewN | apply Kd.R_drew)); exact HO113.out) (Kd.R_base ho0) hb); have n1_ := Aside0.mk (Kd.R_elder' (by (with_reducible repeat (first | apply Kd.R_alloc | apply Kd.R_drewN | apply Kd.R_drew)); exact HO116.out) (Kd.R_base ho0) hb); have n2_ := Aside0.mk (Kd.R_lower (Kd.R_new' (Kd.R_new' ho0 (Kd.R_lt (by (with_reducible repeat (first | apply Kd.R_alloc | apply Kd.R_drewN | apply Kd.R_drew)); exact HO113.out))) (Kd.R_lt (by (with_reducible repeat (first | apply Kd.R_alloc | apply Kd.R_drewN | apply Kd.R_drew)); exact HO116.out))) (below_size (by repeat (first | (with_reducible first | exact HB.out | apply below_alloc | apply pw_below_drewN | apply below_drew1 | refine below_set ?_ GE109.out) | exact HB.out)))); have n3_ := Aside0.mk (blk_below (g := gb109) (o := .cells #[.string a1_0, .string a1_1, .slice A1_2 l1_2.length c1_2, .slice A1_3 l1_3.length c1_3] 40 (0, 0)) (by (with_reducible repeat (first | refine blk_drewN ?_ _ | refine blk_drew ?_ | refine blk_alloc ?_ _)); exact BK109.out) hb); have n4_ := Aside0.mk (below_step (by repeat (first | (with_reducible first | exact HB.out | apply below_alloc | apply pw_below_drewN | apply below_drew1 | refine below_set ?_ GE109.out) | exact HB.out)) hb); clear HO113; clear HO116; clear BK109; clear HB; have HO113 := n0_; have HO116 := n1_; have HO119 := n2_; have BK109 := n3_; have HB := n4_; clear n0_ n1_ n2_ n3_ n4_; (try clear hb); (try clear hb2); (try clear hk); (try clear hi); (try clear ho0); have hcz18_0 : w17.cell? ⟨gb109, 0, none⟩ = some (.string a1_0) := (blk_cell BK109.out 0).trans rfl; have hcz18_1 : w17.cell? ⟨gb109, 1, none⟩ = some (.string a1_1) := (blk_cell BK109.out 1).trans rfl; have hcz18_2 : w17.cell? ⟨gb109, 2, none⟩ = some (.slice A1_2 l1_2.length c1_2) := (blk_cell BK109.out 2).trans rfl; have hcz18_3 : w17.cell? ⟨gb109, 3, none⟩ = some (.slice A1_3 l1_3.length c1_3) := (blk_cell BK109.out 3).trans rfl; have hfz18_0 := blk_frozen BK109.out 0; have hfz18_1 := blk_frozen BK109.out 1; have hfz18_2 := blk_frozen BK109.out 2; have hfz18_3 := blk_frozen BK109.out 3))
    go_loopg [7, 32] k (fun kq v7 v32 w' => ∃ (x7_1 : List Int) (x32_1 : Int), v32 = .int .i64 x32_1 ∧ Aside0 (evcode_Put.l0 kq x7_1 l1_2 (l1_2.length : Int) x32_1 a1_0 a1_1 l1_2 l1_3 = some (r1, r2)) ∧ Aside0 (kq ≤ k) ∧ Aside0 (Kd.R (Kd.int .u8) 5 w' w.heap.size (fun _ => True) v7 x7_1) ∧ Aside0 (w'.heap[gb109]? = some (.cells #[.string a1_0, .string a1_1, (.slice A1_2 l1_2.length c1_2), (.slice A1_3 l1_3.length c1_3)] 40 (0, 0))) ∧ Aside0 (Below w.heap.size w w'))
    case atStart => exact ⟨(t117), (0), (by first | rfl | (simp; done) | (simp [*]; done)), H', ⟨Nat.le_refl _⟩, ⟨by (with_reducible repeat (first | apply Kd.R_alloc | apply Kd.R_drewN | apply Kd.R_drew)); exact Kd.R_mono HO119.out (fun _ hk => trivial)⟩, ⟨by (with_reducible repeat (first | refine blk_drewN ?_ _ | refine blk_drew ?_ | refine blk_alloc ?_ _)); exact BK109.out⟩, ⟨by repeat (first | (with_reducible first | exact HB.out | apply below_alloc | apply pw_below_drewN | apply below_drew1 | refine below_set ?_ GE109.out) | exact HB.out)⟩⟩
    case round =>
      clear H'
      try clear c1
      try clear c2
      try clear p2
      try clear c4
      try clear c4b0
      try clear c4b1
      try clear c17
      try clear hcz15_0
      try clear hcz15_1
      try clear hcz15_2
      try clear hcz15_3
      try clear hcz18_0
      try clear hcz18_1
      try clear hcz18_2
      try clear hcz18_3
      try clear hcz9_0
      try clear hcz9_1
      try clear hcz9_2
      try clear hcz9_3
      try clear hfz15_0
      try clear hfz15_1
      try clear hfz15_2
      try clear hfz15_3
      try clear hfz18_0
      try clear hfz18_1
      try clear hfz18_2
      try clear hfz18_3
      try clear hfz9_0
      try clear hfz9_1
      try clear hfz9_2
      try clear hfz9_3
      obtain ⟨x7_1, x32_1, rfl, HA, HK1, HO_7, BK109, HB⟩ := hrel
      cases gk with
      | zero => exact absurd HA.out (by simp [evcode_Put.l0])
      | succ k1 =>
        have H := HA.out
        clear HA
        simp only [evcode_Put.l0] at H
        by_cases c19 : x32_1 < (l1_2.length : Int)
        · rw [if_pos c19] at H
          have c19b0 : decide (x32_1 < (l1_2.length : Int)) = true := decide_eq_true c19
          clear c19
          by_cases c20 : 0 ≤ x32_1
          · rw [if_pos c20] at H
            have c20b0 : decide (0 ≤ x32_1) = true := decide_eq_true c20
            clear c20
            by_cases c21 : x32_1 < (l1_2.length : Int)
            · rw [if_pos c21] at H
              have c21b0 : decide (x32_1 < (l1_2.length : Int)) = true := decide_eq_true c21
              clear c21
              replace H := Option.bind_eq_some_iff.mp H
              obtain ⟨t121, A220, H⟩ := H
              replace H : (evcode_Put.l0 k1 t121 l1_2 (l1_2.length : Int) (wrap64 (x32_1 + 1)) a1_0 a1_1 l1_2 l1_3) = some (r1, r2) := H
              have A22 := Aside0.mk A220
              clear A220
              have H' := Aside0.mk H
              clear H
              have p120 : 0 ≤ (x32_1 : Int) := of_decide_eq_true (by first | (with_reducible assumption) | assumption)
              have q120 : x32_1 < (l1_2.length : Int) := of_decide_eq_true (by first | (with_reducible assumption) | assumption)
              obtain ⟨ad120, e120, hx120_0⟩ := Kd.at_string HR1_2.out x32_1 p120 q120
              cases e120
              replace hx120_0 := (HB.out.cell (World.block_lt_of_cell? w _ hx120_0)).trans hx120_0
              replace p120 := eq_true p120
              replace q120 := eq_true q120
              obtain ⟨Ao23, co23, eo23⟩ := Kd.R_slice HO_7.out
              subst eo23
              go_wp2_with (first | ((with_reducible refine gate_callee (f := 25) rfl ?_); refine goesL_ (some 38) rfl rfl Try.func25 (by kernel_rfl) rfl #[.slice Ao23 x7_1.length co23, .string (rdOf ByteArray.empty l1_2 x32_1)] rfl (by (try simp only [List.map_toArray, List.map_cons, List.map_nil]); first | done | rfl | (simp only [List.length_drop, List.length_take]; rfl)) ?_; (with_reducible refine (num_PutText.calls _ _ x7_1 (rdOf ByteArray.empty l1_2 x32_1) t121 _ ?side1 ?side2 A22.out).mono ?_); (case side1 => repeat (first | exact (Kd.R_reads' HO_7.out).2.2 | (with_reducible refine Kd.C_alloc ?_ _) | (with_reducible refine Kd.C_drewN ?_ _) | (with_reducible refine Kd.C_drew ?_))); (case side2 => exact (Kd.R_reads' HO_7.out).2.1); rintro e w24 ⟨v122, rfl, ho0, hb⟩; refine ⟨_, rfl, ?_⟩; have n0_ := Aside0.mk (Kd.R_elder' (by (with_reducible repeat (first | apply Kd.R_alloc | apply Kd.R_drewN | apply Kd.R_drew)); exact HO_7.out) (Kd.R_base ho0) hb); have n1_ := Aside0.mk (Kd.R_lower (Kd.R_new' ho0 (Kd.R_lt (by (with_reducible repeat (first | apply Kd.R_alloc | apply Kd.R_drewN | apply Kd.R_drew)); exact HO_7.out))) (below_size (by repeat (first | (with_reducible first | exact HB.out | apply below_alloc | apply pw_below_drewN | apply below_drew1 | refine below_set ?_ GE109.out) | exact HB.out)))); have n2_ := Aside0.mk (blk_below (g := gb109) (o := .cells #[.string a1_0, .string a1_1, .slice (some ad120) l1_2.length c1_2, .slice A1_3 l1_3.length c1_3] 40 (0, 0)) (by (with_reducible repeat (first | refine blk_drewN ?_ _ | refine blk_drew ?_ | refine blk_alloc ?_ _)); exact BK109.out) hb); have n3_ := Aside0.mk (below_step (by repeat (first | (with_reducible first | exact HB.out | apply below_alloc | apply pw_below_drewN | apply below_drew1 | refine below_set ?_ GE109.out) | exact HB.out)) hb); clear HO_7; clear BK109; clear HB; have HO_7 := n0_; have HO123 := n1_; have BK109 := n2_; have HB := n3_; clear n0_ n1_ n2_ n3_; (try clear hb); (try clear hb2); (try clear hk); (try clear hi); (try clear ho0)))
              go_roundg k1
              case measure => have := HK1.out; omega
              case rel => exact ⟨(t121), (wrap64 (x32_1 + 1)), (by first | rfl | (simp; done) | (simp [*]; done)), H', ⟨by have := HK1.out; omega⟩, ⟨by (with_reducible repeat (first | apply Kd.R_alloc | apply Kd.R_drewN | apply Kd.R_drew)); exact Kd.R_mono HO123.out (fun _ hk => trivial)⟩, ⟨by (with_reducible repeat (first | refine blk_drewN ?_ _ | refine blk_drew ?_ | refine blk_alloc ?_ _)); exact BK109.out⟩, ⟨by repeat (first | (with_reducible first | exact HB.out | apply below_alloc | apply pw_below_drewN | apply below_drew1 | refine below_set ?_ GE109.out) | exact HB.out)⟩⟩
            · rw [if_neg c21] at H
              exact absurd H (by simp)
          · rw [if_neg c20] at H
            exact absurd H (by simp)
        · rw [if_neg c19] at H
          have c19b0 : decide (x32_1 < (l1_2.length : Int)) = false := decide_eq_false c19
          clear c19
          replace H := Option.bind_eq_some_iff.mp H
          obtain ⟨t124, A250, H⟩ := H
          replace H : (evcode_Put.l1 k1 t124 l1_3 (l1_3.length : Int) 0) = some (r1, r2) := H
          have A25 := Aside0.mk A250
          clear A250
          have H' := Aside0.mk H
          clear H
          have hcz26_0 : wr.cell? ⟨gb109, 0, none⟩ = some (.string a1_0) := (blk_cell BK109.out 0).trans rfl
          have hcz26_1 : wr.cell? ⟨gb109, 1, none⟩ = some (.string a1_1) := (blk_cell BK109.out 1).trans rfl
          have hcz26_2 : wr.cell? ⟨gb109, 2, none⟩ = some (.slice A1_2 l1_2.length c1_2) := (blk_cell BK109.out 2).trans rfl
          have hcz26_3 : wr.cell? ⟨gb109, 3, none⟩ = some (.slice A1_3 l1_3.length c1_3) := (blk_cell BK109.out 3).trans rfl
          have hfz26_0 := blk_frozen BK109.out 0
          have hfz26_1 := blk_frozen BK109.out 1
          have hfz26_2 := blk_frozen BK109.out 2
          have hfz26_3 := blk_frozen BK109.out 3
          obtain ⟨Ao27, co27, eo27⟩ := Kd.R_slice HO_7.out
          subst eo27
          go_wp2_with (first | ((with_reducible refine gate_callee (f := 20) rfl ?_); refine goesL_ (some 44) rfl rfl Try.func20 (by kernel_rfl) rfl #[.slice Ao27 x7_1.length co27, .int .i64 (l1_3.length : Int)] rfl (by (try simp only [List.map_toArray, List.map_cons, List.map_nil]); first | done | rfl | (simp only [List.length_drop, List.length_take]; rfl)) ?_; (with_reducible refine (num_Put.calls _ _ x7_1 (l1_3.length : Int) t124 _ ?side1 ?side2 A25.out).mono ?_); (case side1 => repeat (first | exact (Kd.R_reads' HO_7.out).2.2 | (with_reducible refine Kd.C_alloc ?_ _) | (with_reducible refine Kd.C_drewN ?_ _) | (with_reducible refine Kd.C_drew ?_))); (case side2 => exact (Kd.R_reads' HO_7.out).2.1); rintro e w28 ⟨v125, rfl, ho0, hb⟩; refine ⟨_, rfl, ?_⟩; have n0_ := Aside0.mk (Kd.R_elder' (by (with_reducible repeat (first | apply Kd.R_alloc | apply Kd.R_drewN | apply Kd.R_drew)); exact HO_7.out) (Kd.R_base ho0) hb); have n1_ := Aside0.mk (Kd.R_lower (Kd.R_new' ho0 (Kd.R_lt (by (with_reducible repeat (first | apply Kd.R_alloc | apply Kd.R_drewN | apply Kd.R_drew)); exact HO_7.out))) (below_size (by repeat (first | (with_reducible first | exact HB.out | apply below_alloc | apply pw_below_drewN | apply below_drew1 | refine below_set ?_ GE109.out) | exact HB.out)))); have n2_ := Aside0.mk (blk_below (g := gb109) (o := .cells #[.string a1_0, .string a1_1, .slice A1_2 l1_2.length c1_2, .slice A1_3 l1_3.length c1_3] 40 (0, 0)) (by (with_reducible repeat (first | refine blk_drewN ?_ _ | refine blk_drew ?_ | refine blk_alloc ?_ _)); exact BK109.out) hb); have n3_ := Aside0.mk (below_step (by repeat (first | (with_reducible first | exact HB.out | apply below_alloc | apply pw_below_drewN | apply below_drew1 | refine below_set ?_ GE109.out) | exact HB.out)) hb); clear HO_7; clear BK109; clear HB; have HO_7 := n0_; have HO126 := n1_; have BK109 := n2_; have HB := n3_; clear n0_ n1_ n2_ n3_; (try clear hb); (try clear hb2); (try clear hk); (try clear hi); (try clear ho0); have hcz29_0 : w28.cell? ⟨gb109, 0, none⟩ = some (.string a1_0) := (blk_cell BK109.out 0).trans rfl; have hcz29_1 : w28.cell? ⟨gb109, 1, none⟩ = some (.string a1_1) := (blk_cell BK109.out 1).trans rfl; have hcz29_2 : w28.cell? ⟨gb109, 2, none⟩ = some (.slice A1_2 l1_2.length c1_2) := (blk_cell BK109.out 2).trans rfl; have hcz29_3 : w28.cell? ⟨gb109, 3, none⟩ = some (.slice A1_3 l1_3.length c1_3) := (blk_cell BK109.out 3).trans rfl; have hfz29_0 := blk_frozen BK109.out 0; have hfz29_1 := blk_frozen BK109.out 1; have hfz29_2 := blk_frozen BK109.out 2; have hfz29_3 := blk_frozen BK109.out 3))
          go_loopg [7, 48] k1 (fun kq v7 v48 w' => ∃ (x7_2 : List Int) (x48_2 : Int), v48 = .int .i64 x48_2 ∧ Aside0 (evcode_Put.l1 kq x7_2 l1_3 (l1_3.length : Int) x48_2 = some (r1, r2)) ∧ Aside0 (kq ≤ k1) ∧ Aside0 (Kd.R (Kd.int .u8) 5 w' w.heap.size (fun _ => True) v7 x7_2) ∧ Aside0 (w'.heap[gb109]? = some (.cells #[.string a1_0, .string a1_1, (.slice A1_2 l1_2.length c1_2), (.slice A1_3 l1_3.length c1_3)] 40 (0, 0))) ∧ Aside0 (Below w.heap.size w w'))
          case atStart => exact ⟨(t124), (0), (by first | rfl | (simp; done) | (simp [*]; done)), H', ⟨Nat.le_refl _⟩, ⟨by (with_reducible repeat (first | apply Kd.R_alloc | apply Kd.R_drewN | apply Kd.R_drew)); exact Kd.R_mono HO126.out (fun _ hk => trivial)⟩, ⟨by (with_reducible repeat (first | refine blk_drewN ?_ _ | refine blk_drew ?_ | refine blk_alloc ?_ _)); exact BK109.out⟩, ⟨by repeat (first | (with_reducible first | exact HB.out | apply below_alloc | apply pw_below_drewN | apply below_drew1 | refine below_set ?_ GE109.out) | exact HB.out)⟩⟩
          case round =>
            clear H'
            try clear c1
            try clear p1
            try clear q1
            try clear hx1
            try clear c2
            try clear p2
            try clear c4
            try clear c4b0
            try clear c4b1
            try clear p6
            try clear p12
            try clear q12
            try clear hx12
            try clear c17
            try clear c19
            try clear c19b0
            try clear c20
            try clear c20b0
            try clear c21
            try clear c21b0
            try clear c22
            try clear c25
            try clear hcz15_0
            try clear hcz15_1
            try clear hcz15_2
            try clear hcz15_3
            try clear hcz18_0
            try clear hcz18_1
            try clear hcz18_2
            try clear hcz18_3
            try clear hcz26_0
            try clear hcz26_1
            try clear hcz26_2
            try clear hcz26_3
            try clear hcz29_0
            try clear hcz29_1
            try clear hcz29_2
            try clear hcz29_3
            try clear hcz9_0
            try clear hcz9_1
            try clear hcz9_2
            try clear hcz9_3
            try clear hfz15_0
            try clear hfz15_1
            try clear hfz15_2
            try clear hfz15_3
            try clear hfz18_0
            try clear hfz18_1
            try clear hfz18_2
            try clear hfz18_3
            try clear hfz26_0
            try clear hfz26_1
            try clear hfz26_2
            try clear hfz26_3
            try clear hfz29_0
            try clear hfz29_1
            try clear hfz29_2
            try clear hfz29_3
            try clear hfz9_0
            try clear hfz9_1
            try clear hfz9_2
            try clear hfz9_3
            try clear hx120_0
            try clear p120
            try clear p2
            try clear q120
            obtain ⟨x7_2, x48_2, rfl, HA, HK2, HO_7, BK109, HB⟩ := hrel
            cases gk with
            | zero => exact absurd HA.out (by simp [evcode_Put.l1])
            | succ k2 =>
              have H := HA.out
              clear HA
              simp only [evcode_Put.l1] at H
              by_cases c30 : x48_2 < (l1_3.length : Int)
              · rw [if_pos c30] at H
                have c30b0 : decide (x48_2 < (l1_3.length : Int)) = true := decide_eq_true c30
                clear c30
                by_cases c31 : 0 ≤ x48_2
                · rw [if_pos c31] at H
                  have c31b0 : decide (0 ≤ x48_2) = true := decide_eq_true c31
                  clear c31
                  by_cases c32 : x48_2 < (l1_3.length : Int)
                  · rw [if_pos c32] at H
                    have c32b0 : decide (x48_2 < (l1_3.length : Int)) = true := decide_eq_true c32
                    clear c32
                    replace H := Option.bind_eq_some_iff.mp H
                    obtain ⟨t129, A330, H⟩ := H
                    replace H : ((num_Put.f t129 ((rd_T50 l1_3 x48_2).f1)).bind fun t132 => (evcode_Put.l1 k2 t132 l1_3 (l1_3.length : Int) (wrap64 (x48_2 + 1)))) = some (r1, r2) := H
                    have A33 := Aside0.mk A330
                    clear A330
                    replace H := Option.bind_eq_some_iff.mp H
                    obtain ⟨t132, A340, H⟩ := H
                    replace H : (evcode_Put.l1 k2 t132 l1_3 (l1_3.length : Int) (wrap64 (x48_2 + 1))) = some (r1, r2) := H
                    have A34 := Aside0.mk A340
                    clear A340
                    have H' := Aside0.mk H
                    clear H
                    have p127 : 0 ≤ (x48_2 : Int) := of_decide_eq_true (by first | (with_reducible assumption) | assumption)
                    have q127 : x48_2 < (l1_3.length : Int) := of_decide_eq_true (by first | (with_reducible assumption) | assumption)
                    obtain ⟨ad127, e127, hx127_0, hx127_1⟩ := at_T50 HR1_3.out x48_2 p127 q127
                    cases e127
                    replace hx127_0 := (HB.out.cell (World.block_lt_of_cell? w _ hx127_0)).trans hx127_0
                    replace hx127_1 := (HB.out.cell (World.block_lt_of_cell? w _ hx127_1)).trans hx127_1
                    replace p127 := eq_true p127
                    replace q127 := eq_true q127
                    try go_wp2_with (first | ((with_reducible refine gate_dst (N := 11) rfl ?_); refine box_event ?hg (N := 11) ?hd (cs := #[.string (⟨#[]⟩ : ByteArray), .int .i64 0]) (t := 50) ?hr ?_; (case hd => rfl); (case hg => rfl); (case hr => first | (go_simp; done) | (go_simp; rfl)); intro gb128 hg w35 hbox hb; have n0_ := Aside0.mk (Kd.R_below (by (with_reducible repeat (first | apply Kd.R_alloc | apply Kd.R_drewN | apply Kd.R_drew)); exact HO_7.out) hb); have n1_ := Aside0.mk (blk_below (g := gb109) (o := .cells #[.string a1_0, .string a1_1, .slice A1_2 l1_2.length c1_2, .slice (some ad127) l1_3.length c1_3] 40 (0, 0)) (by (with_reducible repeat (first | refine blk_drewN ?_ _ | refine blk_drew ?_ | refine blk_alloc ?_ _)); exact BK109.out) hb); have n2_ := Aside0.mk (below_step (by repeat (first | (with_reducible first | exact HB.out | apply below_alloc | apply pw_below_drewN | apply below_drew1 | refine below_set ?_ GE109.out) | exact HB.out)) hb); have n3_ := Aside0.mk (hbox); have n4_ := Aside0.mk ((by rw [hg]; exact (below_size (by repeat (first | (with_reducible first | exact HB.out | apply below_alloc | apply pw_below_drewN | apply below_drew1 | refine below_set ?_ GE109.out) | exact HB.out))) : w.heap.size ≤ gb128)); have n5_ := Aside0.mk ((by rw [hg]; exact (below_size (by repeat (first | (with_reducible first | exact HB.out | apply below_alloc | apply pw_below_drewN | apply below_drew1 | refine below_set ?_ GE109.out) | exact HB.out))) : w.heap.size ≤ gb128)); have n6_ := Aside0.mk ((by rw [hg]; exact Nat.ne_of_lt (blk_lt (g := gb109) (o := .cells #[.string a1_0, .string a1_1, .slice A1_2 l1_2.length c1_2, .slice (some ad127) l1_3.length c1_3] 40 (0, 0)) (by (with_reducible repeat (first | refine blk_drewN ?_ _ | refine blk_drew ?_ | refine blk_alloc ?_ _)); exact BK109.out)) : gb109 ≠ gb128)); have n7_ := Aside0.mk ((by rw [hg]; exact Nat.ne_of_gt (blk_lt (g := gb109) (o := .cells #[.string a1_0, .string a1_1, .slice A1_2 l1_2.length c1_2, .slice (some ad127) l1_3.length c1_3] 40 (0, 0)) (by (with_reducible repeat (first | refine blk_drewN ?_ _ | refine blk_drew ?_ | refine blk_alloc ?_ _)); exact BK109.out)) : gb128 ≠ gb109)); clear HO_7; clear BK109; clear HB; have HO_7 := n0_; have BK109 := n1_; have HB := n2_; have BK128 := n3_; have GW128 := n4_; have GE128 := n5_; have NB109_128 := n6_; have NB128_109 := n7_; clear n0_ n1_ n2_ n3_ n4_ n5_ n6_ n7_; clear hb hbox hg; have hnb36 := NB128_109.out; have hnc36 := NB109_128.out; have hcz37_0 : w35.cell? ⟨gb128, 0, none⟩ = some (.string (⟨#[]⟩ : ByteArray)) := (blk_cell BK128.out 0).trans rfl; have hcz37_1 : w35.cell? ⟨gb128, 1, none⟩ = some (.int .i64 0) := (blk_cell BK128.out 1).trans rfl; have hfz37_0 := blk_frozen BK128.out 0; have hfz37_1 := blk_frozen BK128.out 1))
                    have n0_ : Aside0 (Kd.R (Kd.int .u8) 5 ((w35.setCell ⟨gb128, 0, none⟩ (.string ((rd_T50 l1_3 x48_2).f0))).setCell ⟨gb128, 1, none⟩ (.int .i64 ((rd_T50 l1_3 x48_2).f1))) w.heap.size (fun _ => True) u7 x7_2) := ⟨by (with_reducible repeat (first | apply Kd.R_alloc | apply Kd.R_drewN | apply Kd.R_drew)); exact Kd.R_mono (Kd.R_far (p := ⟨gb128, 1, none⟩) (Kd.R_far (p := ⟨gb128, 0, none⟩) (Kd.R_types HO_7.out BK128.out (by decide)) (fun _ hk => hk.2) (.string ((rd_T50 l1_3 x48_2).f0))) (fun _ hk => hk.2) (.int .i64 ((rd_T50 l1_3 x48_2).f1))) (fun _ hk => trivial)⟩
                    have n1_ : Aside0 (((w35.setCell ⟨gb128, 0, none⟩ (.string ((rd_T50 l1_3 x48_2).f0))).setCell ⟨gb128, 1, none⟩ (.int .i64 ((rd_T50 l1_3 x48_2).f1))).heap[gb109]? = some (.cells #[.string a1_0, .string a1_1, .slice A1_2 l1_2.length c1_2, .slice (some ad127) l1_3.length c1_3] 40 (0, 0))) := ⟨by (with_reducible repeat (first | refine blk_drewN ?_ _ | refine blk_drew ?_ | refine blk_alloc ?_ _)); refine blk_far ?_ NB109_128.out _; (with_reducible repeat (first | refine blk_drewN ?_ _ | refine blk_drew ?_ | refine blk_alloc ?_ _)); refine blk_far ?_ NB109_128.out _; (with_reducible repeat (first | refine blk_drewN ?_ _ | refine blk_drew ?_ | refine blk_alloc ?_ _)); exact BK109.out⟩
                    have n2_ : Aside0 (((w35.setCell ⟨gb128, 0, none⟩ (.string ((rd_T50 l1_3 x48_2).f0))).setCell ⟨gb128, 1, none⟩ (.int .i64 ((rd_T50 l1_3 x48_2).f1))).heap[gb128]? = some (.cells #[.string ((rd_T50 l1_3 x48_2).f0), .int .i64 ((rd_T50 l1_3 x48_2).f1)] 50 (0, 0))) := ⟨by (with_reducible repeat (first | refine blk_drewN ?_ _ | refine blk_drew ?_ | refine blk_alloc ?_ _)); refine blk_put (cs := #[.string ((rd_T50 l1_3 x48_2).f0), .int .i64 0]) ?_ 1 _ rfl; (with_reducible repeat (first | refine blk_drewN ?_ _ | refine blk_drew ?_ | refine blk_alloc ?_ _)); refine blk_put (cs := #[.string (⟨#[]⟩ : ByteArray), .int .i64 0]) ?_ 0 _ rfl; (with_reducible repeat (first | refine blk_drewN ?_ _ | refine blk_drew ?_ | refine blk_alloc ?_ _)); exact BK128.out⟩
                    have n3_ : Aside0 (Below w.heap.size w ((w35.setCell ⟨gb128, 0, none⟩ (.string ((rd_T50 l1_3 x48_2).f0))).setCell ⟨gb128, 1, none⟩ (.int .i64 ((rd_T50 l1_3 x48_2).f1)))) := ⟨by repeat (first | (with_reducible first | exact HB.out | apply below_alloc | apply pw_below_drewN | apply below_drew1 | refine below_set ?_ GE109.out | refine below_set ?_ GE128.out) | exact HB.out)⟩
                    (try clear HO_7)
                    (try clear BK109)
                    (try clear BK128)
                    (try clear HB)
                    generalize ((w35.setCell ⟨gb128, 0, none⟩ (.string ((rd_T50 l1_3 x48_2).f0))).setCell ⟨gb128, 1, none⟩ (.int .i64 ((rd_T50 l1_3 x48_2).f1))) = w38 at n0_ n1_ n2_ n3_ ⊢
                    have HO_7 := n0_
                    have BK109 := n1_
                    have BK128 := n2_
                    have HB := n3_
                    clear n0_ n1_ n2_ n3_
                    have n0_ := Aside0.mk (Kd.R_drew HO_7.out)
                    have n1_ := Aside0.mk (blk_drew BK109.out)
                    have n2_ := Aside0.mk (blk_drew BK128.out)
                    have n3_ := Aside0.mk (below_drew1 HB.out)
                    clear HO_7
                    clear BK109
                    clear BK128
                    clear HB
                    have HO_7 := n0_
                    have BK109 := n1_
                    have BK128 := n2_
                    have HB := n3_
                    clear n0_ n1_ n2_ n3_
                    obtain ⟨Ao40, co40, eo40⟩ := Kd.R_slice HO_7.out
                    (first | subst eo40 | (injection eo40 with f1_ f2_ f3_; have f4_ := f1_.symm; have f5_ := f3_.symm; clear f1_ f2_ f3_; subst f4_; subst f5_))
                    refine start_ (n := 8) (S := fun w' => w'.cell? ⟨gb128, 0, none⟩ = some (.string ((rd_T50 l1_3 x48_2).f0)) ∧ w'.cell? ⟨gb128, 1, none⟩ = some (.int .i64 ((rd_T50 l1_3 x48_2).f1))) (ds := []) #[false, false, false, false, false, false, false, false] (by kernel_rfl) rfl rfl ⟨(blk_cell BK128.out 0).trans rfl, (blk_cell BK128.out 1).trans rfl⟩ (fun hHeld => ?_); refine with_tabW evcode_Put.tab15 evcode_Put.bits15 (fun HT_ HW_ => ?_)
                    generalize w38.drew = w39 at HO_7 BK109 BK128 HB hHeld ⊢
                    refine pure_ (i := 0) (N := some 52) (v := ?_) (a' := ?_) #[true, false, false, false, false, false, false, false] rfl rfl (any_of HT_.out (by kernel_rfl)) (fun _ _ _ h => h) (Or.inl ⟨by rfl, ?_⟩) ?_ ?_
                    rotate_left
                    · intro w'
                      go_simp
                      with_reducible rfl
                    rotate_left
                    · simp only [Act.put, List.setIfInBounds_toArray, List.set_cons_zero, List.set_cons_succ, i64_w, i32_w]
                      rfl
                    refine pure_ (i := 1) (N := some 53) (v := ?_) (a' := ?_) #[true, true, false, false, false, false, false, false] rfl rfl (any_of HT_.out (by kernel_rfl)) (fun _ _ _ h => h) (Or.inl ⟨by rfl, ?_⟩) ?_ ?_
                    rotate_left
                    · intro w'
                      go_simp
                      with_reducible rfl
                    rotate_left
                    · simp only [Act.put, List.setIfInBounds_toArray, List.set_cons_zero, List.set_cons_succ, i64_w, i32_w]
                      rfl
                    refine pure_ (i := 4) (N := some 56) (v := ?_) (a' := ?_) #[true, true, false, false, true, false, false, false] rfl rfl (any_of HT_.out (by kernel_rfl)) (fun _ _ _ h => h) (Or.inl ⟨by rfl, ?_⟩) ?_ ?_
                    rotate_left
                    · intro w'
                      go_simp
                      with_reducible rfl
                    rotate_left
                    · simp only [Act.put, List.setIfInBounds_toArray, List.set_cons_zero, List.set_cons_succ, i64_w, i32_w]
                      rfl
                    refine take_ (i := 2) (N := some 54) (v := ?_) (a' := ?_) #[true, true, true, false, true, false, false, false] rfl rfl (take_ofW HT_.out HW_.out (by kernel_rfl)) (fun _ _ _ h => h) (Or.inl ⟨by rfl, ?_⟩) hHeld ?_ ?_
                    rotate_left
                    · rintro w' ⟨s0, s1⟩
                      go_simp
                      with_reducible rfl
                    rotate_left
                    · simp only [Act.put, List.setIfInBounds_toArray, List.set_cons_zero, List.set_cons_succ, i64_w, i32_w]
                      rfl
                    refine take_ (i := 5) (N := some 57) (v := ?_) (a' := ?_) #[true, true, true, false, true, true, false, false] rfl rfl (take_ofW HT_.out HW_.out (by kernel_rfl)) (fun _ _ _ h => h) (Or.inl ⟨by rfl, ?_⟩) hHeld ?_ ?_
                    rotate_left
                    · rintro w' ⟨s0, s1⟩
                      go_simp
                      with_reducible rfl
                    rotate_left
                    · simp only [Act.put, List.setIfInBounds_toArray, List.set_cons_zero, List.set_cons_succ, i64_w, i32_w]
                      rfl
                    refine one_ (i := 3) (N := some 55) #[true, true, true, true, true, true, false, false] rfl rfl (one_of HT_.out (by kernel_rfl)) (by decide) (fun K hK => ?_)
                    refine goes_ Try.func25 (by kernel_rfl) rfl #[.slice Ao40 x7_2.length co40, .string ((rd_T50 l1_3 x48_2).f0)] (by rfl) rfl rfl (by (try simp only [List.map_toArray, List.map_cons, List.map_nil]); first | done | rfl | (simp only [List.length_drop, List.length_take]; rfl)) ?_
                    with_reducible refine (num_PutText.calls _ _ x7_2 ((rd_T50 l1_3 x48_2).f0) t129 _ ?side1 ?side2 A33.out).mono ?_
                    (case side1 => repeat (first | exact (Kd.R_reads' HO_7.out).2.2 | (with_reducible refine Kd.C_alloc ?_ _) | (with_reducible refine Kd.C_drewN ?_ _) | (with_reducible refine Kd.C_drew ?_)))
                    (case side2 => exact (Kd.R_reads' HO_7.out).2.1)
                    rintro e w41 ⟨v130, rfl, ho0, hb⟩
                    refine ⟨_, rfl, ?_⟩
                    have n0_ := Aside0.mk (Kd.R_elder' (by (with_reducible repeat (first | apply Kd.R_alloc | apply Kd.R_drewN | apply Kd.R_drew)); exact HO_7.out) (Kd.R_base ho0) hb)
                    have n1_ := Aside0.mk (Kd.R_lower (Kd.R_new' ho0 (Kd.R_lt (by (with_reducible repeat (first | apply Kd.R_alloc | apply Kd.R_drewN | apply Kd.R_drew)); exact HO_7.out))) (below_size (by repeat (first | (with_reducible first | exact HB.out | apply below_alloc | apply pw_below_drewN | apply below_drew1 | refine below_set ?_ GE109.out | refine below_set ?_ GE128.out) | exact HB.out))))
                    have n2_ := Aside0.mk (blk_below (g := gb109) (o := .cells #[.string a1_0, .string a1_1, .slice A1_2 l1_2.length c1_2, .slice (some ad127) l1_3.length c1_3] 40 (0, 0)) (by (with_reducible repeat (first | refine blk_drewN ?_ _ | refine blk_drew ?_ | refine blk_alloc ?_ _)); exact BK109.out) hb)
                    have n3_ := Aside0.mk (blk_below (g := gb128) (o := .cells #[.string ((rd_T50 l1_3 x48_2).f0), .int .i64 ((rd_T50 l1_3 x48_2).f1)] 50 (0, 0)) (by (with_reducible repeat (first | refine blk_drewN ?_ _ | refine blk_drew ?_ | refine blk_alloc ?_ _)); exact BK128.out) hb)
                    have n4_ := Aside0.mk (below_step (by repeat (first | (with_reducible first | exact HB.out | apply below_alloc | apply pw_below_drewN | apply below_drew1 | refine below_set ?_ GE109.out | refine below_set ?_ GE128.out) | exact HB.out)) hb)
                    clear HO_7
                    clear BK109
                    clear BK128
                    clear HB
                    have HO_7 := n0_
                    have HO131 := n1_
                    have BK109 := n2_
                    have BK128 := n3_
                    have HB := n4_
                    clear n0_ n1_ n2_ n3_ n4_
                    (try clear hb)
                    (try clear hb2)
                    (try clear hk)
                    (try clear hi)
                    (try clear ho0)
                    obtain ⟨Ao42, co42, eo42⟩ := Kd.R_slice HO131.out
                    (first | subst eo42 | (injection eo42 with f1_ f2_ f3_; have f4_ := f1_.symm; have f5_ := f3_.symm; clear f1_ f2_ f3_; subst f4_; subst f5_))
                    refine hK.out _ _ ⟨(blk_cell BK128.out 0).trans rfl, (blk_cell BK128.out 1).trans rfl⟩ (fun hHeld => ?_)
                    clear hK K
                    refine norm_ (a' := ?_) ?_ ?_
                    rotate_left
                    · show Act.put _ (some 55) _ = _
                      simp only [Act.put, List.setIfInBounds_toArray, List.set_cons_zero, List.set_cons_succ, i64_w, i32_w]
                      rfl
                    refine one_ (i := 6) (N := some 58) #[true, true, true, true, true, true, true, false] rfl rfl (one_of HT_.out (by kernel_rfl)) (by decide) (fun K hK => ?_)
                    refine goes_ Try.func20 (by kernel_rfl) rfl #[.slice Ao42 t129.length co42, .int .i64 ((rd_T50 l1_3 x48_2).f1)] (by rfl) rfl rfl (by (try simp only [List.map_toArray, List.map_cons, List.map_nil]); first | done | rfl | (simp only [List.length_drop, List.length_take]; rfl)) ?_
                    with_reducible refine (num_Put.calls _ _ t129 ((rd_T50 l1_3 x48_2).f1) t132 _ ?side1 ?side2 A34.out).mono ?_
                    (case side1 => repeat (first | exact (Kd.R_reads' HO131.out).2.2 | (with_reducible refine Kd.C_alloc ?_ _) | (with_reducible refine Kd.C_drewN ?_ _) | (with_reducible refine Kd.C_drew ?_)))
                    (case side2 => exact (Kd.R_reads' HO131.out).2.1)
                    rintro e w43 ⟨v133, rfl, ho0, hb⟩
                    refine ⟨_, rfl, ?_⟩
                    have n0_ := Aside0.mk (Kd.R_elder' (by (with_reducible repeat (first | apply Kd.R_alloc | apply Kd.R_drewN | apply Kd.R_drew)); exact HO_7.out) (Kd.R_base ho0) hb)
                    have n1_ := Aside0.mk (Kd.R_elder' (by (with_reducible repeat (first | apply Kd.R_alloc | apply Kd.R_drewN | apply Kd.R_drew)); exact HO131.out) (Kd.R_base ho0) hb)
                    have n2_ := Aside0.mk (Kd.R_lower (Kd.R_new' (Kd.R_new' ho0 (Kd.R_lt (by (with_reducible repeat (first | apply Kd.R_alloc | apply Kd.R_drewN | apply Kd.R_drew)); exact HO_7.out))) (Kd.R_lt (by (with_reducible repeat (first | apply Kd.R_alloc | apply Kd.R_drewN | apply Kd.R_drew)); exact HO131.out))) (below_size (by repeat (first | (with_reducible first | exact HB.out | apply below_alloc | apply pw_below_drewN | apply below_drew1 | refine below_set ?_ GE109.out | refine below_set ?_ GE128.out) | exact HB.out))))
                    have n3_ := Aside0.mk (blk_below (g := gb109) (o := .cells #[.string a1_0, .string a1_1, .slice A1_2 l1_2.length c1_2, .slice (some ad127) l1_3.length c1_3] 40 (0, 0)) (by (with_reducible repeat (first | refine blk_drewN ?_ _ | refine blk_drew ?_ | refine blk_alloc ?_ _)); exact BK109.out) hb)
                    have n4_ := Aside0.mk (blk_below (g := gb128) (o := .cells #[.string ((rd_T50 l1_3 x48_2).f0), .int .i64 ((rd_T50 l1_3 x48_2).f1)] 50 (0, 0)) (by (with_reducible repeat (first | refine blk_drewN ?_ _ | refine blk_drew ?_ | refine blk_alloc ?_ _)); exact BK128.out) hb)
                    have n5_ := Aside0.mk (below_step (by repeat (first | (with_reducible first | exact HB.out | apply below_alloc | apply pw_below_drewN | apply below_drew1 | refine below_set ?_ GE109.out | refine below_set ?_ GE128.out) | exact HB.out)) hb)
                    clear HO_7
                    clear HO131
                    clear BK109
                    clear BK128
                    clear HB
                    have HO_7 := n0_
                    have HO131 := n1_
                    have HO134 := n2_
                    have BK109 := n3_
                    have BK128 := n4_
                    have HB := n5_
                    clear n0_ n1_ n2_ n3_ n4_ n5_
                    (try clear hb)
                    (try clear hb2)
                    (try clear hk)
                    (try clear hi)
                    (try clear ho0)
                    refine hK.out _ _ ⟨(blk_cell BK128.out 0).trans rfl, (blk_cell BK128.out 1).trans rfl⟩ (fun hHeld => ?_)
                    clear hK K
                    refine norm_ (a' := ?_) ?_ ?_
                    rotate_left
                    · show Act.put _ (some 58) _ = _
                      simp only [Act.put, List.setIfInBounds_toArray, List.set_cons_zero, List.set_cons_succ, i64_w, i32_w]
                      rfl
                    refine pure_ (i := 7) (N := some 7) (v := ?_) (a' := ?_) #[true, true, true, true, true, true, true, true] rfl rfl (any_of HT_.out (by kernel_rfl)) (fun _ _ _ h => h) (Or.inl ⟨by rfl, ?_⟩) ?_ ?_
                    rotate_left
                    · intro w'
                      go_simp
                      with_reducible rfl
                    rotate_left
                    · simp only [Act.put, List.setIfInBounds_toArray, List.set_cons_zero, List.set_cons_succ, i64_w, i32_w]
                      rfl
                    refine done_ (done_of HT_.out (by kernel_rfl)) ?_
                    try go_wp2
                    go_roundg k2
                    case measure => have := HK1.out; have := HK2.out; omega
                    case rel => exact ⟨(t132), (wrap64 (x48_2 + 1)), (by first | rfl | (simp; done) | (simp [*]; done)), H', ⟨by have := HK1.out; have := HK2.out; omega⟩, ⟨by (with_reducible repeat (first | apply Kd.R_alloc | apply Kd.R_drewN | apply Kd.R_drew)); exact Kd.R_mono HO134.out (fun _ hk => trivial)⟩, ⟨by (with_reducible repeat (first | refine blk_drewN ?_ _ | refine blk_drew ?_ | refine blk_alloc ?_ _)); exact BK109.out⟩, ⟨by repeat (first | (with_reducible first | exact HB.out | apply below_alloc | apply pw_below_drewN | apply below_drew1 | refine below_set ?_ GE109.out | refine below_set ?_ GE128.out) | exact HB.out)⟩⟩
                  · rw [if_neg c32] at H
                    exact absurd H (by simp)
                · rw [if_neg c31] at H
                  exact absurd H (by simp)
              · rw [if_neg c30] at H
                have c30b0 : decide (x48_2 < (l1_3.length : Int)) = false := decide_eq_false c30
                clear c30
                simp only [Option.some.injEq, Prod.mk.injEq] at H
                obtain ⟨rfl, rfl⟩ := H
                go_wp2
                go_ret2
                exact ⟨_, by first | rfl | (simp [errW_none, errW_some] <;> rfl) | (simp [*, errW_none, errW_some] <;> rfl), by (with_reducible repeat (first | apply Kd.R_alloc | apply Kd.R_drewN | apply Kd.R_drew)); exact HO_7.out, by repeat (first | (with_reducible first | exact HB.out | apply below_alloc | apply pw_below_drewN | apply below_drew1 | refine below_set ?_ GE109.out) | exact HB.out)⟩
  · rw [if_neg c4] at H
    have c4b0 : (t110 == 0) = false := beq_eq_false_iff_ne.mpr c4
    have c4b1 : (t110 != 0) = true := bne_iff_ne.mpr c4
    simp only [Option.some.injEq, Prod.mk.injEq] at H
    obtain ⟨rfl, rfl⟩ := H
    go_enter Try.func17, Try.ntmps17
    go_wp2_with (first | ((with_reducible refine gate_dst (N := 3) rfl ?_); refine box_event ?hg (N := 3) ?hd (cs := #[.string a1_0, .string a1_1, .slice A1_2 l1_2.length c1_2, .slice A1_3 l1_3.length c1_3]) (t := 40) ?hr ?_; (case hd => rfl); (case hg => rfl); (case hr => first | (go_simp; done) | (go_simp; rfl)); intro gb109 hg w44 hbox hb; have n0_ := Aside0.mk (below_step (by repeat (first | (with_reducible first | exact HB.out | apply below_alloc | apply pw_below_drewN | apply below_drew1) | exact HB.out)) hb); have n1_ := Aside0.mk (hbox); have n2_ := Aside0.mk ((by rw [hg]; exact (below_size (by repeat (first | (with_reducible first | exact HB.out | apply below_alloc | apply pw_below_drewN | apply below_drew1) | exact HB.out))) : w.heap.size ≤ gb109)); have n3_ := Aside0.mk ((by rw [hg]; exact (below_size (by repeat (first | (with_reducible first | exact HB.out | apply below_alloc | apply pw_below_drewN | apply below_drew1) | exact HB.out))) : w.heap.size ≤ gb109)); clear HB; have HB := n0_; have BK109 := n1_; have GW109 := n2_; have GE109 := n3_; clear n0_ n1_ n2_ n3_; clear hb hbox hg; have hcz45_0 : w44.cell? ⟨gb109, 0, none⟩ = some (.string a1_0) := (blk_cell BK109.out 0).trans rfl; have hcz45_1 : w44.cell? ⟨gb109, 1, none⟩ = some (.string a1_1) := (blk_cell BK109.out 1).trans rfl; have hcz45_2 : w44.cell? ⟨gb109, 2, none⟩ = some (.slice A1_2 l1_2.length c1_2) := (blk_cell BK109.out 2).trans rfl; have hcz45_3 : w44.cell? ⟨gb109, 3, none⟩ = some (.slice A1_3 l1_3.length c1_3) := (blk_cell BK109.out 3).trans rfl; have hfz45_0 := blk_frozen BK109.out 0; have hfz45_1 := blk_frozen BK109.out 1; have hfz45_2 := blk_frozen BK109.out 2; have hfz45_3 := blk_frozen BK109.out 3) | ((with_reducible refine gate_callee (f := 22) rfl ?_); refine goesL_ (some 13) rfl rfl Try.func22 (by kernel_rfl) rfl #[.agg #[.string a1_0, .string a1_1, .slice A1_2 l1_2.length c1_2, .slice A1_3 l1_3.length c1_3]] rfl (by (try simp only [List.map_toArray, List.map_cons, List.map_nil]); first | done | rfl | (simp only [List.length_drop, List.length_take]; rfl)) ?_; (with_reducible refine (event_May.calls a1_0 a1_1 _ _ l1_2 _ _ l1_3 t110 _ ?side1 ?side2 ?side3 ?side4 A3.out).mono ?_); (case side1 => repeat (first | exact (Kd.C_below HR1_2.out HB.out) | (with_reducible refine Kd.C_alloc ?_ _) | (with_reducible refine Kd.C_drewN ?_ _) | (with_reducible refine Kd.C_drew ?_))); (case side2 => exact HC1_2.out); (case side3 => repeat (first | exact (Kd.C_below HR1_3.out HB.out) | (with_reducible refine Kd.C_alloc ?_ _) | (with_reducible refine Kd.C_drewN ?_ _) | (with_reducible refine Kd.C_drew ?_))); (case side4 => exact HC1_3.out); rintro e w46 ⟨rfl, hb⟩; refine ⟨_, rfl, ?_⟩; have n0_ := Aside0.mk (blk_below (g := gb109) (o := .cells #[.string a1_0, .string a1_1, .slice A1_2 l1_2.length c1_2, .slice A1_3 l1_3.length c1_3] 40 (0, 0)) (by (with_reducible repeat (first | refine blk_drewN ?_ _ | refine blk_drew ?_ | refine blk_alloc ?_ _)); exact BK109.out) hb); have n1_ := Aside0.mk (below_step (by repeat (first | (with_reducible first | exact HB.out | apply below_alloc | apply pw_below_drewN | apply below_drew1 | refine below_set ?_ GE109.out) | exact HB.out)) hb); clear BK109; clear HB; have BK109 := n0_; have HB := n1_; clear n0_ n1_; (try clear hb); (try clear hb2); (try clear hk); (try clear hi)))
    go_ret2
    exact ⟨_, by first | rfl | (simp [errW_none, errW_some] <;> rfl) | (simp [*, errW_none, errW_some] <;> rfl), by first | exact Kd.R_nil _ _ _ _ _ | exact Kd.N_nil _ _ _ _ _ | exact Kd.V_nil _ _ _ _ _ | exact Kd.Q_nil _ _ _ _ _ | exact Kd.S_nil _ _ _ _ _, by repeat (first | (with_reducible first | exact HB.out | apply below_alloc | apply pw_below_drewN | apply below_drew1 | refine below_set ?_ GE109.out) | exact HB.out)⟩

end Go.Proofs.Ytafeakcajhhkoaa.Prt
namespace Go.Proofs.Ytafeakcajhhkoaa.Prt
open Go.RowKit Go.Proofs.YtafeakcajhhkoaaW.PrintWords Go.Proofs.YtafeakcajhhkoaaW.PrintLast Go.Proofs.YtafeakcajhhkoaaW.PrintMore
attribute [local go_sem] max2_int min2_int max_two min_two max_three min_three max_four min_four   -- for this text's walks alone
set_option linter.unusedVariables false
set_option linter.unusedSimpArgs false

end Go.Proofs.Ytafeakcajhhkoaa.Prt
namespace Go.Proofs.Ytafeakcajhhkoaa.Prt
open Go.RowKit Go.Proofs.YtafeakcajhhkoaaW.PrintWords Go.Proofs.YtafeakcajhhkoaaW.PrintLast Go.Proofs.YtafeakcajhhkoaaW.PrintMore
attribute [local go_sem] max2_int min2_int max_two min_two max_three min_three max_four min_four   -- for this text's walks alone
set_option linter.unusedVariables false
set_option linter.unusedSimpArgs false

end Go.Proofs.Ytafeakcajhhkoaa.Prt
namespace Go.Proofs.Ytafeakcajhhkoaa.Prt
open Go.RowKit Go.Proofs.YtafeakcajhhkoaaW.PrintWords Go.Proofs.YtafeakcajhhkoaaW.PrintLast Go.Proofs.YtafeakcajhhkoaaW.PrintMore Go.Proofs.Ytafeakcajhhkoaa.Num Go.Proofs.Ytafeakcajhhkoaa.Nam
set_option linter.unusedVariables false
set_option linter.unusedSimpArgs false

theorem drop_rdE (l : List S40) (i : Nat) (h : i < l.length) : l.drop i = rd_T40 l (i : Int) :: l.drop (i + 1) := by
  rw [List.drop_eq_getElem_cons h]
  unfold rd_T40
  rw [Int.toNat_natCast, List.getD_eq_getElem?_getD, List.getElem?_eq_getElem h]; rfl
theorem rdE_mem {l : List S40} {i : Nat} (h : i < l.length) : rd_T40 l (i : Int) ∈ l := getD_mem' h _
def encTs (l : List ByteArray) : List Int := l.flatMap fun s => encT (bytesOf s)
def encFs (l : List S50) : List Int := l.flatMap fun f => encT (bytesOf f.f0) ++ enc f.f1
/-- An event as bytes. -/
def encEv (s t : ByteArray) (tags : List ByteArray) (fl : List S50) : List Int :=
  encT (bytesOf s) ++ (encT (bytesOf t) ++ ((enc (tags.length : Int) ++ encTs tags) ++ (enc (fl.length : Int) ++ encFs fl)))
theorem encT_len (s : ByteArray) (h : s.size ≤ 9223372036854775807) : (encT (bytesOf s)).length ≤ 10 + s.size := by
  unfold encT
  have := enc_len (x := ((bytesOf s).length : Int)) ⟨by omega, by rw [bytes_length]; omega⟩
  rw [List.length_append, bytes_length] at *; omega
theorem may_size {s : ByteArray} (h : mayL (bytesOf s) = true) : s.size ≤ 24 := by have := (may_parts h).2.1; rwa [bytes_length] at this
theorem tag_size {s : ByteArray} (h : tagB s = true) : s.size ≤ 49 := by
  obtain ⟨k, v, hs, h1, h2⟩ := (tagB_iff s).1 h
  have := may_size h1
  have := may_size h2
  rw [hs, ByteArray.size_append, ByteArray.size_append]
  show k.size + 1 + v.size ≤ 49
  omega
/-- What an event is in which nothing is wrong. -/
structure OkE (s t : ByteArray) (tags : List ByteArray) (fl : List S50) : Prop where
  hs : mayL (bytesOf s) = true
  ht : mayL (bytesOf t) = true
  ht6 : tags.length ≤ 6
  hf4 : fl.length ≤ 4
  htag : ∀ x ∈ tags, tagB x = true
  hname : ∀ x ∈ fl, mayL (bytesOf x.f0) = true
  hr1 : riseB tags = true
  hr2 : riseB (fl.map (·.f0)) = true
  hov : ∀ x ∈ fl, -1099511627776 ≤ x.f1 ∧ x.f1 ≤ 1099511627776
theorem okE_iff (s t : ByteArray) (tags : List ByteArray) (fl : List S50) : mayE s t tags fl = 0 ↔ OkE s t tags fl := by
  unfold mayE
  constructor
  · intro h
    by_cases c1 : mayL (bytesOf s) = false ∨ mayL (bytesOf t) = false
    · rw [if_pos c1] at h; cases h
    rw [if_neg c1] at h
    by_cases c2 : 6 < tags.length ∨ 4 < fl.length
    · rw [if_pos c2] at h; cases h
    rw [if_neg c2] at h
    by_cases c3 : (tags.any fun s => !tagB s) = true ∨ ((fl.map (·.f0)).any fun s => !mayL (bytesOf s)) = true
    · rw [if_pos c3] at h; cases h
    rw [if_neg c3] at h
    by_cases c4 : riseB tags = false ∨ riseB (fl.map (·.f0)) = false ∨ fl.any overB = true
    · rw [if_pos c4] at h; cases h
    simp only [not_or, Bool.not_eq_false, Bool.not_eq_true] at c1 c3 c4
    refine ⟨c1.1, c1.2, by omega, by omega, fun x hx => ?_, fun x hx => ?_, c4.1, c4.2.1, fun x hx => ?_⟩
    · have := List.any_eq_false.1 c3.1 x hx; simpa using this
    · have := List.any_eq_false.1 c3.2 x.f0 (List.mem_map.2 ⟨x, hx, rfl⟩); simpa using this
    · have := List.any_eq_false.1 c4.2.2 x hx
      unfold overB at this
      rw [decide_eq_true_iff] at this
      omega
  · intro h
    rw [if_neg (by rw [h.hs, h.ht]; simp), if_neg (by have := h.ht6; have := h.hf4; omega), if_neg ?_, if_neg ?_]
    · rw [h.hr1, h.hr2]
      have : fl.any overB = false := List.any_eq_false.2 (fun x hx => by unfold overB; rw [decide_eq_true_iff]; have := h.hov x hx; omega)
      rw [this]; simp
    · rintro (c | c)
      · obtain ⟨x, hx, h2⟩ := List.any_eq_true.1 c
        rw [h.htag x hx] at h2; cases h2
      · obtain ⟨y, hy, h2⟩ := List.any_eq_true.1 c
        obtain ⟨x, hx, rfl⟩ := List.mem_map.1 hy
        rw [h.hname x hx] at h2; cases h2

theorem evcode_Put_l1 (s t : ByteArray) (tags : List ByteArray) (fl : List S50) (hf : fl.length ≤ 4) (hn : ∀ x ∈ fl, x.f0.size ≤ 24) (ho : ∀ x ∈ fl, -1099511627776 ≤ x.f1 ∧ x.f1 ≤ 1099511627776) : ∀ (n i k : Nat) (x : List Int), i + n = fl.length → n < k → x.length + 50 * n ≤ 140737488348000 → evcode_Put.l1 k x fl (fl.length : Int) (i : Int) = some (x ++ encFs (fl.drop i), 0) := by
  intro n
  induction n with
  | zero =>
    intro i k x hi hk hx
    obtain ⟨k, rfl⟩ : ∃ m, k = m + 1 := ⟨k - 1, by omega⟩
    rw [evcode_Put.l1, if_neg (by omega), List.drop_eq_nil_of_le (by omega)]
    unfold encFs; rw [List.flatMap_nil, List.append_nil]
  | succ n ih =>
    intro i k x hi hk hx
    obtain ⟨k, rfl⟩ : ∃ m, k = m + 1 := ⟨k - 1, by omega⟩
    have hm := rdF_mem (l := fl) (i := i) (by omega)
    have h1 := hn _ hm
    have h2 := ho _ hm
    have h3 := encT_len (rd_T50 fl (i : Int)).f0 (by omega)
    have h4 := enc_len (x := (rd_T50 fl (i : Int)).f1) ⟨by omega, by omega⟩
    have m1 : num_PutText.f x (rd_T50 fl (i : Int)).f0 = some (x ++ encT (bytesOf (rd_T50 fl (i : Int)).f0)) := if_pos (by omega)
    have m2 : num_Put.f (x ++ encT (bytesOf (rd_T50 fl (i : Int)).f0)) (rd_T50 fl (i : Int)).f1 = some ((x ++ encT (bytesOf (rd_T50 fl (i : Int)).f0)) ++ enc (rd_T50 fl (i : Int)).f1) := if_pos ⟨by rw [List.length_append]; omega, by omega, by omega⟩
    rw [evcode_Put.l1, if_pos (by omega), if_pos (by omega), if_pos (by omega), m1]
    simp only [Option.bind_some]
    rw [m2]
    simp only [Option.bind_some]
    rw [succW i (by omega), ih (i + 1) k _ (by omega) (by omega) (by rw [List.length_append, List.length_append]; omega), drop_rdF fl i (by omega)]
    unfold encFs; rw [List.flatMap_cons]; simp only [List.append_assoc]
theorem evcode_Put_l0 (s t : ByteArray) (tags : List ByteArray) (fl : List S50) (hf : fl.length ≤ 4) (ht : tags.length ≤ 6) (htg : ∀ x ∈ tags, x.size ≤ 49) (hn : ∀ x ∈ fl, x.f0.size ≤ 24) (ho : ∀ x ∈ fl, -1099511627776 ≤ x.f1 ∧ x.f1 ≤ 1099511627776) : ∀ (n i k : Nat) (x : List Int), i + n = tags.length → n + 5 < k → x.length + 60 * n ≤ 140737488347000 → evcode_Put.l0 k x tags (tags.length : Int) (i : Int) s t tags fl = some (x ++ (encTs (tags.drop i) ++ (enc (fl.length : Int) ++ encFs fl)), 0) := by
  intro n
  induction n with
  | zero =>
    intro i k x hi hk hx
    obtain ⟨k, rfl⟩ : ∃ m, k = m + 1 := ⟨k - 1, by omega⟩
    have h4 := enc_len (x := (fl.length : Int)) ⟨by omega, by omega⟩
    have m2 : num_Put.f x (fl.length : Int) = some (x ++ enc (fl.length : Int)) := if_pos ⟨by omega, by omega, by omega⟩
    rw [evcode_Put.l0, if_neg (by omega), m2, List.drop_eq_nil_of_le (by omega)]
    simp only [Option.bind_some]
    have := evcode_Put_l1 s t tags fl hf hn ho fl.length 0 k (x ++ enc (fl.length : Int)) (by omega) (by omega) (by rw [List.length_append]; omega)
    rw [List.drop_zero, List.append_assoc] at this
    exact this
  | succ n ih =>
    intro i k x hi hk hx
    obtain ⟨k, rfl⟩ : ∃ m, k = m + 1 := ⟨k - 1, by omega⟩
    have h1 := htg _ (rdOf_mem (l := tags) (i := i) (by omega))
    have h3 := encT_len (rdOf ByteArray.empty tags (i : Int)) (by omega)
    have m1 : num_PutText.f x (rdOf ByteArray.empty tags (i : Int)) = some (x ++ encT (bytesOf (rdOf ByteArray.empty tags (i : Int)))) := if_pos (by omega)
    rw [evcode_Put.l0, if_pos (by omega), if_pos (by omega), if_pos (by omega), m1]
    simp only [Option.bind_some]
    rw [succW i (by omega), ih (i + 1) k _ (by omega) (by omega) (by rw [List.length_append]; omega), drop_rd tags i (by omega)]
    unfold encTs; rw [List.flatMap_cons]; simp only [List.append_assoc]
def evcode_PutG.f (l0 : List Int) (a1_0 : ByteArray) (a1_1 : ByteArray) (l1_2 : List ByteArray) (l1_3 : List (S50)) : Option (List Int × Int) :=
  if l0.length ≤ 140737488340000 ∧ l1_2.length ≤ 9223372036854775807 ∧ fitE a1_0 a1_1 l1_2 l1_3 = true then some (if mayE a1_0 a1_1 l1_2 l1_3 = 0 then (l0 ++ encEv a1_0 a1_1 l1_2 l1_3, 0) else ([], mayE a1_0 a1_1 l1_2 l1_3)) else none
theorem evcode_PutG.val {l0 : List Int} {a1_0 : ByteArray} {a1_1 : ByteArray} {l1_2 : List ByteArray} {l1_3 : List (S50)} {r1 : List Int} {r2 : Int} (h : evcode_PutG.f l0 a1_0 a1_1 l1_2 l1_3 = some (r1, r2)) : ∃ k, evcode_Put.f k l0 a1_0 a1_1 l1_2 l1_3 = some (r1, r2) := by
  unfold evcode_PutG.f at h
  by_cases hc : l0.length ≤ 140737488340000 ∧ l1_2.length ≤ 9223372036854775807 ∧ fitE a1_0 a1_1 l1_2 l1_3 = true
  · rw [if_pos hc] at h
    rw [← h]
    have m0 : event_May.f a1_0 a1_1 l1_2 l1_3 = some (mayE a1_0 a1_1 l1_2 l1_3) := if_pos hc.2.2
    refine ⟨l1_2.length + 7, ?_⟩
    unfold evcode_Put.f
    rw [m0]
    simp only [Option.bind_some]
    by_cases h0 : mayE a1_0 a1_1 l1_2 l1_3 = 0
    · rw [if_pos h0, if_pos h0]
      have ok := (okE_iff _ _ _ _).1 h0
      have z1 := may_size ok.hs
      have z2 := may_size ok.ht
      have q1 := encT_len a1_0 (by omega)
      have q2 := encT_len a1_1 (by omega)
      have ht6 := ok.ht6
      have q3 := enc_len (x := (l1_2.length : Int)) ⟨by omega, by omega⟩
      have m1 : num_PutText.f l0 a1_0 = some (l0 ++ encT (bytesOf a1_0)) := if_pos (by omega)
      have m2 : num_PutText.f (l0 ++ encT (bytesOf a1_0)) a1_1 = some ((l0 ++ encT (bytesOf a1_0)) ++ encT (bytesOf a1_1)) := if_pos (by rw [List.length_append]; omega)
      have m3 : num_Put.f ((l0 ++ encT (bytesOf a1_0)) ++ encT (bytesOf a1_1)) (l1_2.length : Int) = some (((l0 ++ encT (bytesOf a1_0)) ++ encT (bytesOf a1_1)) ++ enc (l1_2.length : Int)) := if_pos ⟨by rw [List.length_append, List.length_append]; omega, by omega, by omega⟩
      rw [m1]
      simp only [Option.bind_some]
      rw [m2]
      simp only [Option.bind_some]
      rw [m3]
      simp only [Option.bind_some]
      have := evcode_Put_l0 a1_0 a1_1 l1_2 l1_3 ok.hf4 ht6 (fun x hx => tag_size (ok.htag x hx)) (fun x hx => may_size (ok.hname x hx)) ok.hov l1_2.length 0 (l1_2.length + 7) (((l0 ++ encT (bytesOf a1_0)) ++ encT (bytesOf a1_1)) ++ enc (l1_2.length : Int)) (by omega) (by omega) (by rw [List.length_append, List.length_append, List.length_append]; omega)
      rw [List.drop_zero] at this
      refine this.trans ?_
      unfold encEv
      simp only [List.append_assoc]
    · rw [if_neg h0, if_neg h0]
  · rw [if_neg hc] at h; cases h
theorem evcode_PutG.calls (A0 : Option Addr) (c0 : Nat) (l0 : List Int) (a1_0 : ByteArray) (a1_1 : ByteArray) (A1_2 : Option Addr) (c1_2 : Nat) (l1_2 : List ByteArray) (A1_3 : Option Addr) (c1_3 : Nat) (l1_3 : List (S50)) (r1 : List Int) (r2 : Int) (w : World) (hr0 : Kd.C (Kd.int .u8) w A0 l0.length l0) (hc0 : l0.length ≤ c0) (hr1_2 : Kd.C Kd.string w A1_2 l1_2.length l1_2) (hc1_2 : l1_2.length ≤ c1_2) (hr1_3 : Kd.C k50 w A1_3 l1_3.length l1_3) (hc1_3 : l1_3.length ≤ c1_3) (h : evcode_PutG.f l0 a1_0 a1_1 l1_2 l1_3 = some (r1, r2)) :
    Calls Try.prog 17 #[.slice A0 l0.length c0, .agg #[.string a1_0, .string a1_1, .slice A1_2 l1_2.length c1_2, .slice A1_3 l1_3.length c1_3]] w fun e w' => ∃ v0_ : Value, e = .returned (.tuple #[v0_, .int .i64 r2]) ∧ Kd.R (Kd.int .u8) 5 w' w.heap.size (fun _ => True) v0_ r1 ∧ Below w.heap.size w w' := by
  obtain ⟨k, hk⟩ := evcode_PutG.val h
  exact evcode_Put.calls k A0 c0 l0 a1_0 a1_1 A1_2 c1_2 l1_2 A1_3 c1_3 l1_3 r1 r2 w hr0 hc0 hr1_2 hc1_2 hr1_3 hc1_3 hk

end Go.Proofs.Ytafeakcajhhkoaa.Prt
namespace Go.Proofs.Ytafeakcajhhkoaa.Prt
open Go.RowKit Go.Proofs.YtafeakcajhhkoaaW.PrintWords Go.Proofs.YtafeakcajhhkoaaW.PrintLast Go.Proofs.YtafeakcajhhkoaaW.PrintMore Go.Proofs.Ytafeakcajhhkoaa.Num Go.Proofs.Ytafeakcajhhkoaa.Nam
set_option linter.unusedVariables false
set_option linter.unusedSimpArgs false

theorem enc_0 : enc 0 = [0] := by unfold enc zz; rw [if_neg (by omega), encN_lt (by decide)]; rfl
theorem enc_1 : enc 1 = [2] := by unfold enc zz; rw [if_neg (by omega), encN_lt (by decide)]; rfl
theorem may_one (c : Int) (h : plainC c = true) (h2 : notFirst c = false) : mayL [c] = true := by
  refine may_of ⟨by simp, by simp⟩ h2 ?_
  rw [lo1 h]; exact lettersOnly_nil
theorem ok_st : OkE (⟨#[115]⟩ : ByteArray) (⟨#[116]⟩ : ByteArray) [] [] :=
  ⟨may_one 115 (by decide) (by decide), may_one 116 (by decide) (by decide), by simp, by simp, fun x hx => by simp at hx, fun x hx => by simp at hx, rfl, rfl, fun x hx => by simp at hx⟩
theorem enc_st : encEv (⟨#[115]⟩ : ByteArray) (⟨#[116]⟩ : ByteArray) [] [] = [2, 115, 2, 116, 0, 0] := by
  show (enc 1 ++ [115]) ++ ((enc 1 ++ [116]) ++ ((enc 0 ++ []) ++ (enc 0 ++ []))) = _
  rw [enc_0, enc_1]; rfl
theorem putG_ok {l0 : List Int} {s t : ByteArray} {a : List ByteArray} {f : List S50} (hl : l0.length ≤ 140737488340000) (ha : a.length ≤ 9223372036854775807) (hf : fitE s t a f = true) :
    evcode_PutG.f l0 s t a f = some (if mayE s t a f = 0 then (l0 ++ encEv s t a f, 0) else ([], mayE s t a f)) := if_pos ⟨hl, ha, hf⟩
/-- Texts that fit in a machine. -/
def Fits (s t : ByteArray) (a : List ByteArray) (f : List S50) : Prop := s.size ≤ 9223372036854775807 ∧ t.size ≤ 9223372036854775807 ∧ (∀ x ∈ a, x.size ≤ 9223372036854775807) ∧ (∀ x ∈ f, x.f0.size ≤ 9223372036854775807)
theorem fit_few {s t : ByteArray} {a : List ByteArray} {f : List S50} (h : Fits s t a f) : fitE s t (a.take 12) (f.take 12) = true := by
  obtain ⟨h1, h2, h3, h4⟩ := h
  refine fitE_iff.2 ⟨h1, h2, fun x hx => h3 x (List.mem_of_mem_take hx), fun x hx => h4 x (List.mem_of_mem_take hx), ?_⟩
  rw [List.length_take]; omega
theorem take12 {α : Type} (l : List α) : (l.take 12).length ≤ 9223372036854775807 := by rw [List.length_take]; omega

theorem OkE.sizes {s t : ByteArray} {a : List ByteArray} {f : List S50} (h : OkE s t a f) : s.size ≤ 9223372036854775807 ∧ t.size ≤ 9223372036854775807 ∧ (∀ x ∈ a, x.size ≤ 9223372036854775807) ∧ (∀ x ∈ f, x.f0.size ≤ 9223372036854775807 ∧ i64 x.f1) ∧ i64 (a.length : Int) ∧ i64 (f.length : Int) := by
  have h1 := may_size h.hs
  have h2 := may_size h.ht
  have h3 := h.ht6
  have h4 := h.hf4
  refine ⟨by omega, by omega, fun x hx => ?_, fun x hx => ⟨?_, ?_⟩, ⟨by omega, by omega⟩, ⟨by omega, by omega⟩⟩
  · have := tag_size (h.htag x hx); omega
  · have := may_size (h.hname x hx); omega
  · have := h.hov x hx; exact ⟨by omega, by omega⟩
end Go.Proofs.Ytafeakcajhhkoaa.Prt
namespace Go.Proofs.Ytafeakcajhhkoaa.Prt
open Go.RowKit Go.Proofs.YtafeakcajhhkoaaW.PrintWords Go.Proofs.YtafeakcajhhkoaaW.PrintLast Go.Proofs.YtafeakcajhhkoaaW.PrintMore Go.Proofs.Ytafeakcajhhkoaa.Num Go.Proofs.Ytafeakcajhhkoaa.Nam
set_option linter.unusedVariables false
set_option linter.unusedSimpArgs false

end Go.Proofs.Ytafeakcajhhkoaa.Prt
namespace Go.Proofs.Ytafeakcajhhkoaa.Prt
open Go.RowKit Go.Proofs.YtafeakcajhhkoaaW.PrintWords Go.Proofs.YtafeakcajhhkoaaW.PrintLast Go.Proofs.YtafeakcajhhkoaaW.PrintMore Go.Proofs.Ytafeakcajhhkoaa.Num Go.Proofs.Ytafeakcajhhkoaa.Nam
set_option linter.unusedVariables false
set_option linter.unusedSimpArgs false

end Go.Proofs.Ytafeakcajhhkoaa.Prt
namespace Go.Proofs.Ytafeakcajhhkoaa.Prt
open Go.RowKit Go.Proofs.YtafeakcajhhkoaaW.PrintWords Go.Proofs.YtafeakcajhhkoaaW.PrintLast Go.Proofs.YtafeakcajhhkoaaW.PrintMore Go.Proofs.Ytafeakcajhhkoaa.Num Go.Proofs.Ytafeakcajhhkoaa.Nam
set_option linter.unusedVariables false
set_option linter.unusedSimpArgs false

end Go.Proofs.Ytafeakcajhhkoaa.Prt
namespace Go.Proofs.Ytafeakcajhhkoaa.Prt
open Go.RowKit Go.Proofs.YtafeakcajhhkoaaW.PrintWords Go.Proofs.YtafeakcajhhkoaaW.PrintLast Go.Proofs.YtafeakcajhhkoaaW.PrintMore Go.Proofs.Ytafeakcajhhkoaa.Num Go.Proofs.Ytafeakcajhhkoaa.Nam
set_option linter.unusedVariables false
set_option linter.unusedSimpArgs false

def OkX (x : S40) : Prop := OkE x.f0 x.f1 x.f2 x.f3
def encX (x : S40) : List Int := encEv x.f0 x.f1 x.f2 x.f3
def encEs (l : List S40) : List Int := l.flatMap encX
theorem encEs_cons (x : S40) (l : List S40) : encEs (x :: l) = encX x ++ encEs l := by unfold encEs; rw [List.flatMap_cons]
theorem encTs_size (a : List ByteArray) (h : ∀ x ∈ a, x.size ≤ 49) : (encTs a).length ≤ 59 * a.length := by
  induction a with
  | nil => simp [encTs]
  | cons x r ih =>
    have e : encTs (x :: r) = encT (bytesOf x) ++ encTs r := by unfold encTs; rw [List.flatMap_cons]
    have h1 := h x (by simp)
    have h2 := encT_len x (by omega)
    have h3 := ih (fun z hz => h z (by simp [hz]))
    rw [e, List.length_append, List.length_cons]; omega
theorem encFs_size (a : List S50) (h : ∀ x ∈ a, x.f0.size ≤ 24 ∧ i64 x.f1) : (encFs a).length ≤ 44 * a.length := by
  induction a with
  | nil => simp [encFs]
  | cons x r ih =>
    have e : encFs (x :: r) = (encT (bytesOf x.f0) ++ enc x.f1) ++ encFs r := by unfold encFs; rw [List.flatMap_cons]
    have h1 := (h x (by simp)).1
    have h2 := encT_len x.f0 (by omega)
    have h4 := enc_len (h x (by simp)).2
    have h3 := ih (fun z hz => h z (by simp [hz]))
    rw [e, List.length_append, List.length_append, List.length_cons]; omega
theorem encX_size {x : S40} (h : OkX x) : (encX x).length ≤ 700 := by
  have z1 := may_size h.hs
  have z2 := may_size h.ht
  have h6 := h.ht6
  have h4 := h.hf4
  have q1 := encT_len x.f0 (by omega)
  have q2 := encT_len x.f1 (by omega)
  have q3 := enc_len (x := (x.f2.length : Int)) ⟨by omega, by omega⟩
  have q4 := enc_len (x := (x.f3.length : Int)) ⟨by omega, by omega⟩
  have q5 := encTs_size x.f2 (fun y hy => tag_size (h.htag y hy))
  have q6 := encFs_size x.f3 (fun y hy => ⟨may_size (h.hname y hy), by have := h.hov y hy; exact ⟨by omega, by omega⟩⟩)
  unfold encX encEv
  simp only [List.length_append]
  omega
end Go.Proofs.Ytafeakcajhhkoaa.Prt
namespace Go.Proofs.Ytafeakcajhhkoaa.Prt
open Go.RowKit Go.Proofs.YtafeakcajhhkoaaW.PrintWords Go.Proofs.YtafeakcajhhkoaaW.PrintLast Go.Proofs.YtafeakcajhhkoaaW.PrintMore Go.Proofs.Ytafeakcajhhkoaa.Num Go.Proofs.Ytafeakcajhhkoaa.Nam
set_option linter.unusedVariables false
set_option linter.unusedSimpArgs false

def evE (x : S40) : Int := mayE x.f0 x.f1 x.f2 x.f3
/-- What is wrong with the first event with which something is. -/
def firstE : List S40 → Int
  | [] => 0
  | x :: r => if evE x = 0 then firstE r else evE x
/-- What is wrong with a batch. -/
def mayB (a : Int) (l : List S40) : Int := if l.length = 0 then 22 else if 16 < l.length then 3 else if firstE l ≠ 0 then firstE l else if a < 0 ∨ 1048576 - (l.length : Int) < a then 1 else 0
def fitX (x : S40) : Bool := fitE x.f0 x.f1 x.f2 x.f3
theorem drop_rdE' (l : List S40) (i : Nat) (h : i < l.length) : l.drop i = rd_T40 l (i : Int) :: l.drop (i + 1) := by
  rw [List.drop_eq_getElem_cons h]
  unfold rd_T40
  rw [Int.toNat_natCast, List.getD_eq_getElem?_getD, List.getElem?_eq_getElem h]; rfl
theorem rdE_mem' {l : List S40} {i : Nat} (h : i < l.length) : rd_T40 l (i : Int) ∈ l := getD_mem' h _
theorem firstE_yes {l : List S40} {i : Nat} (h : i < l.length) (h0 : evE (rd_T40 l (i : Int)) = 0) : firstE (l.drop i) = firstE (l.drop (i + 1)) := by rw [drop_rdE' l i h, firstE, if_pos h0]
theorem firstE_no {l : List S40} {i : Nat} (h : i < l.length) (h0 : evE (rd_T40 l (i : Int)) ≠ 0) : firstE (l.drop i) = evE (rd_T40 l (i : Int)) := by rw [drop_rdE' l i h, firstE, if_neg h0]
theorem batchMay_calls (a : Int) (A : Option Addr) (c : Nat) (l : List S40) (w : World) (hr : Kd.C k40 w A l.length l) (hc : l.length ≤ c) (hf : ∀ x ∈ l, fitX x = true) :
    Calls Try.prog 13 #[.agg #[.int .i64 a, .slice A l.length c]] w fun e w' => e = .returned (.int .i64 (mayB a l)) ∧ Below w.heap.size w w' := by
  have hu24 := Try.underlying24
  have hu40 := Try.underlying40
  have HR := Aside0.mk hr
  have HC := Aside0.mk hc
  have HF := Aside0.mk hf
  have HB := Aside0.mk (Below.refl w.heap.size w)
  have hm := Kd.C_max hr
  clear hr hc hf
  obtain ⟨E, hE⟩ : ∃ E, E = mayB a l := ⟨_, rfl⟩
  rw [← hE]
  have HE := Aside0.mk hE
  clear hE
  go_enter Try.func13, Try.ntmps13
  by_cases h0 : l.length = 0
  · have d1 : ((l.length : Int) == 0) = true := beq_iff_eq.mpr (by omega)
    have HG := Aside0.mk (HE.out.trans (if_pos h0))
    clear h0
    go_wp2_with (first | ((with_reducible refine gate_dst (N := 1) rfl ?_); (try (refine gate_guard (by rfl) ?_; dsimp only)); refine box_event ?hg (N := 1) ?hd (cs := #[.int .i64 a, .slice A l.length c]) (t := 24) ?hr ?_; (case hd => rfl); (case hg => rfl); (case hr => first | (go_simp; done) | (go_simp; rfl)); intro g hg_ w2 hbox_ hb_; have HBX := Aside0.mk hbox_; have HBN := Aside0.mk hg_; have HBB := Aside0.mk hb_; clear hbox_ hg_ hb_; have hc0 := blk_cell HBX.out 0; have hf0 := blk_frozen HBX.out 0; have hc1 := blk_cell HBX.out 1; have hf1 := blk_frozen HBX.out 1))
    go_step3
    go_wp2
    try rw [Exit.noGoto_ret]
    go_ret
    exact ⟨ret_i64 HG.out.symm, below_step HB.out HBB.out⟩
  have d1 : ((l.length : Int) == 0) = false := beq_eq_false_iff_ne.mpr (by omega)
  have d1b : ¬ (l = []) := fun h => h0 (by rw [h]; rfl)
  by_cases h1 : 16 < l.length
  · have d2 : decide ((16 : Int) < (l.length : Int)) = true := decide_eq_true (by omega)
    have d2b : decide (16 < l.length) = true := decide_eq_true h1
    have HG := Aside0.mk (HE.out.trans ((if_neg h0).trans (if_pos h1)))
    clear h0
    go_wp2_with (first | ((with_reducible refine gate_dst (N := 1) rfl ?_); (try (refine gate_guard (by rfl) ?_; dsimp only)); refine box_event ?hg (N := 1) ?hd (cs := #[.int .i64 a, .slice A l.length c]) (t := 24) ?hr ?_; (case hd => rfl); (case hg => rfl); (case hr => first | (go_simp; done) | (go_simp; rfl)); intro g hg_ w2 hbox_ hb_; have HBX := Aside0.mk hbox_; have HBN := Aside0.mk hg_; have HBB := Aside0.mk hb_; clear hbox_ hg_ hb_; have hc0 := blk_cell HBX.out 0; have hf0 := blk_frozen HBX.out 0; have hc1 := blk_cell HBX.out 1; have hf1 := blk_frozen HBX.out 1))
    go_step3
    go_wp2
    try rw [Exit.noGoto_ret]
    go_ret
    exact ⟨ret_i64 HG.out.symm, below_step HB.out HBB.out⟩
  have d2 : decide ((16 : Int) < (l.length : Int)) = false := decide_eq_false (by omega)
  have d2b : decide (16 < l.length) = false := decide_eq_false h1
  have HG := Aside0.mk (HE.out.trans ((if_neg h0).trans (if_neg h1)))
  have H16 := Aside0.mk (show l.length ≤ 16 by omega)
  clear h0 h1 HE
  go_wp2_with (first | ((with_reducible refine gate_dst (N := 1) rfl ?_); (try (refine gate_guard (by rfl) ?_; dsimp only)); refine box_event ?hg (N := 1) ?hd (cs := #[.int .i64 a, .slice A l.length c]) (t := 24) ?hr ?_; (case hd => rfl); (case hg => rfl); (case hr => first | (go_simp; done) | (go_simp; rfl)); intro g hg_ w2 hbox_ hb_; have HBX := Aside0.mk hbox_; have HBN := Aside0.mk hg_; have HBB := Aside0.mk hb_; clear hbox_ hg_ hb_; have hc0 := blk_cell HBX.out 0; have hf0 := blk_frozen HBX.out 0; have hc1 := blk_cell HBX.out 1; have hf1 := blk_frozen HBX.out 1))
  go_step3
  go_wp2
  go_step3
  go_wp2
  have HBB2 := Aside0.mk (below_step HB.out HBB.out)
  have HGE : Aside0 (w.heap.size ≤ g) := ⟨by rw [HBN.out]; exact Nat.le_refl _⟩
  clear HBB HB HBN
  have HB := HBB2
  clear HBB2
  go_loopg [4, 19] (l.length + 1) (fun k v4 v19 w' => ∃ i : Nat, v4 = .int .i64 0 ∧ v19 = .int .i64 (i : Int) ∧ Aside0 (i + k = l.length + 1) ∧ Aside0 (firstE (l.drop i) = firstE l) ∧ Aside0 (w'.heap[g]? = some (.cells #[.int .i64 a, .slice A l.length c] 24 (0, 0))) ∧ Aside0 (Below w.heap.size w w'))
  case atStart => exact ⟨0, rfl, rfl, ⟨by omega⟩, ⟨by rw [List.drop_zero]⟩, HBX, HB⟩
  case round =>
    clear HBX HB hc0 hc1 hf0 hf1
    obtain ⟨i, rfl, rfl, HI, HFE, HBX, HB⟩ := hrel
    have hc0 := blk_cell HBX.out 0
    have hc1 := blk_cell HBX.out 1
    by_cases hi : i < l.length
    · have d3 : decide ((i : Int) < (l.length : Int)) = true := decide_eq_true (by omega)
      have d3b : decide (i < l.length) = true := decide_eq_true hi
      obtain ⟨ad, A2, c2, A3, c3, e_, hx0, hx1, hx2, hx3, hl2, hi2, hl3, hi3⟩ := at_T40 HR.out (i : Int) (by omega) (by omega)
      cases e_
      have hxm := rdE_mem' hi
      obtain ⟨x, hx⟩ : ∃ x, x = rd_T40 l (i : Int) := ⟨_, rfl⟩
      rw [← hx] at hx0 hx1 hx2 hx3 hl2 hi2 hl3 hi3 hxm
      have HX := Aside0.mk hx
      simp only [Int.toNat_natCast] at hx0 hx1 hx2 hx3
      replace hx0 := (HB.out.cell (World.block_lt_of_cell? w _ hx0)).trans hx0
      replace hx1 := (HB.out.cell (World.block_lt_of_cell? w _ hx1)).trans hx1
      replace hx2 := (HB.out.cell (World.block_lt_of_cell? w _ hx2)).trans hx2
      replace hx3 := (HB.out.cell (World.block_lt_of_cell? w _ hx3)).trans hx3
      have HR2 := Aside0.mk hi2
      have HC2 := Aside0.mk hl2
      have HR3 := Aside0.mk hi3
      have HC3 := Aside0.mk hl3
      have hfx := HF.out x hxm
      have HFX : Aside0 (event_May.f x.f0 x.f1 x.f2 x.f3 = some (evE x)) := ⟨if_pos hfx⟩
      have HIL := Aside0.mk hi
      clear hx hi2 hl2 hi3 hl3 hxm hfx
      go_upto_region 10 with (first | ((with_reducible refine gate_dst (N := 6) rfl ?_); (try (refine gate_guard (by rfl) ?_; dsimp only)); refine box_event ?hg (N := 6) ?hd (cs := #[.string (⟨#[]⟩ : ByteArray), .string (⟨#[]⟩ : ByteArray), .slice none 0 0, .slice none 0 0]) (t := 40) ?hr ?_; (case hd => rfl); (case hg => rfl); (case hr => first | (go_simp; done) | (go_simp; rfl)); intro B hg_ w3 hbox_ hb_; have HBE := Aside0.mk hbox_; have HBM := Aside0.mk hg_; have HBD := Aside0.mk hb_; clear hbox_ hg_ hb_; have hq0 := blk_cell HBE.out 0; have hz0 := blk_frozen HBE.out 0; have hq1 := blk_cell HBE.out 1; have hz1 := blk_frozen HBE.out 1; have hq2 := blk_cell HBE.out 2; have hz2 := blk_frozen HBE.out 2; have hq3 := blk_cell HBE.out 3; have hz3 := blk_frozen HBE.out 3; have n1_ := Aside0.mk (blk_below HBX.out HBD.out); have n2_ := Aside0.mk (below_step HB.out HBD.out); have HLT := Aside0.mk (blk_lt HBX.out); have HNE := Aside0.mk (show g ≠ B by rw [HBM.out]; exact Nat.ne_of_lt (blk_lt HBX.out)); clear HBX HB; have HBX := n1_; have HB := n2_; clear n1_ n2_))
      have HGB : Aside0 (w.heap.size ≤ B) := ⟨Nat.le_trans HGE.out (by have h1 := blk_lt HBX.out; have h2 := HBM.out; have h3 := HNE.out; have h4 := HBD.out.size; rw [h2]; exact Nat.le_of_lt (by have := HLT.out; omega))⟩
      have n1_ := Aside0.mk (blk_far (blk_far (blk_far (blk_far HBX.out HNE.out (p := ⟨B, 0, none⟩) (.string x.f0)) HNE.out (p := ⟨B, 1, none⟩) (.string x.f1)) HNE.out (p := ⟨B, 2, none⟩) (.slice A2 x.f2.length c2)) HNE.out (p := ⟨B, 3, none⟩) (.slice A3 x.f3.length c3))
      have n2_ := Aside0.mk ((((HB.out.setCell (p := ⟨B, 0, none⟩) HGB.out (.string x.f0)).setCell (p := ⟨B, 1, none⟩) HGB.out (.string x.f1)).setCell (p := ⟨B, 2, none⟩) HGB.out (.slice A2 x.f2.length c2)).setCell (p := ⟨B, 3, none⟩) HGB.out (.slice A3 x.f3.length c3))
      have n6_ := Aside0.mk (blk_put (cs' := #[.string x.f0, .string x.f1, .slice A2 x.f2.length c2, .slice A3 x.f3.length c3]) (blk_put (cs' := #[.string x.f0, .string x.f1, .slice A2 x.f2.length c2, .slice none 0 0]) (blk_put (cs' := #[.string x.f0, .string x.f1, .slice none 0 0, .slice none 0 0]) (blk_put (cs' := #[.string x.f0, .string ⟨#[]⟩, .slice none 0 0, .slice none 0 0]) HBE.out 0 (.string x.f0) rfl) 1 (.string x.f1) rfl) 2 (.slice A2 x.f2.length c2) rfl) 3 (.slice A3 x.f3.length c3) rfl)
      clear HBX HB HBE HBD hx0 hx1 hx2 hx3 hq0 hq1 hq2 hq3 hz0 hz1 hz2 hz3 hc0 hc1
      generalize (((w3.setCell ⟨B, 0, none⟩ (.string x.f0)).setCell ⟨B, 1, none⟩ (.string x.f1)).setCell ⟨B, 2, none⟩ (.slice A2 x.f2.length c2)).setCell ⟨B, 3, none⟩ (.slice A3 x.f3.length c3) = w4 at n1_ n2_ n6_ ⊢
      have hq0 := blk_cell n6_.out 0
      have hq1 := blk_cell n6_.out 1
      have hq2 := blk_cell n6_.out 2
      have hq3 := blk_cell n6_.out 3
      go_wp2_with fail
      refine (event_May.calls x.f0 x.f1 A2 c2 x.f2 A3 c3 x.f3 (evE x) w4 (Kd.C_below HR2.out n2_.out) HC2.out (Kd.C_below HR3.out n2_.out) HC3.out HFX.out).mono ?_
      rintro e w5 ⟨rfl, hb⟩
      have HBX := Aside0.mk (blk_below n1_.out hb)
      have HB := Aside0.mk (below_step n2_.out hb)
      clear n1_ n2_ n6_ hq0 hq1 hq2 hq3 hb
      have hc0 := blk_cell HBX.out 0
      have hc1 := blk_cell HBX.out 1
      obtain ⟨v, hv⟩ : ∃ v, v = evE x := ⟨_, rfl⟩
      rw [← hv]
      have HV := Aside0.mk hv
      clear hv
      by_cases hv0 : v = 0
      · have b1 : (v == 0) = true := beq_iff_eq.mpr hv0
        have HV0 := Aside0.mk hv0
        have HFN := Aside0.mk (show firstE (l.drop (i + 1)) = firstE l by rw [← firstE_yes HIL.out (by rw [← HX.out, ← HV.out]; exact hv0)]; exact HFE.out)
        clear hv0
        go_wp2_with fail
        go_roundg (l.length - i)
        case measure => have := HI.out; omega
        case rel => exact ⟨i + 1, by rw [HV0.out], by go_num, ⟨by have := HI.out; omega⟩, HFN, HBX, HB⟩
      · have b1 : (v == 0) = false := beq_eq_false_iff_ne.mpr hv0
        have HV0 := Aside0.mk hv0
        have HR := Aside0.mk (show E = v from HG.out.trans (by
          have e : firstE l = v := by rw [← HFE.out, firstE_no HIL.out (by rw [← HX.out, ← HV.out]; exact hv0), ← HX.out, HV.out]
          rw [e]; exact if_pos hv0))
        clear hv0
        go_wp2_with fail
        rw [Exit.noGoto_ret]
        go_ret
        exact ⟨ret_i64 HR.out.symm, HB.out⟩
    · have d3 : decide ((i : Int) < (l.length : Int)) = false := decide_eq_false (by omega)
      have d3b : decide (i < l.length) = false := decide_eq_false hi
      have HFZ : Aside0 (firstE l = 0) := ⟨by rw [← HFE.out, List.drop_eq_nil_of_le (by omega)]; rfl⟩
      have HG2 := Aside0.mk (HG.out.trans (if_neg (by rw [HFZ.out]; simp)))
      have h16 := H16.out
      by_cases ha : a < 0
      · have b1 : decide (a < 0) = true := decide_eq_true ha
        have HR := Aside0.mk (HG2.out.trans (if_pos (.inl ha)))
        go_wp2_with fail
        try rw [Exit.noGoto_ret]
        go_ret
        exact ⟨ret_i64 HR.out.symm, HB.out⟩
      · have b1 : decide (a < 0) = false := decide_eq_false ha
        by_cases ha2 : 1048576 - (l.length : Int) < a
        · have b2 : decide (1048576 - (l.length : Int) < a) = true := decide_eq_true ha2
          have HR := Aside0.mk (HG2.out.trans (if_pos (.inr ha2)))
          go_wp2_with fail
          try rw [Exit.noGoto_ret]
          go_ret
          exact ⟨ret_i64 HR.out.symm, HB.out⟩
        · have b2 : decide (1048576 - (l.length : Int) < a) = false := decide_eq_false ha2
          have HR := Aside0.mk (HG2.out.trans (if_neg (by omega)))
          go_wp2_with fail
          try rw [Exit.noGoto_ret]
          go_ret
          exact ⟨ret_i64 HR.out.symm, HB.out⟩
def batch_May.f (a0_0 : Int) (l0_1 : List S40) : Option Int := if l0_1.all fitX = true then some (mayB a0_0 l0_1) else none
theorem batch_May.calls (a0_0 : Int) (A0_1 : Option Addr) (c0_1 : Nat) (l0_1 : List (S40)) (r : Int) (w : World) (hr0_1 : Kd.C k40 w A0_1 l0_1.length l0_1) (hc0_1 : l0_1.length ≤ c0_1) (h : batch_May.f a0_0 l0_1 = some r) :
    Calls Try.prog 13 #[.agg #[.int .i64 a0_0, .slice A0_1 l0_1.length c0_1]] w fun e w' => e = .returned (.int .i64 r) ∧ Below w.heap.size w w' := by
  unfold batch_May.f at h
  by_cases hc : l0_1.all fitX = true
  · rw [if_pos hc] at h
    obtain rfl := Option.some.inj h
    exact batchMay_calls a0_0 A0_1 c0_1 l0_1 w hr0_1 hc0_1 (List.all_eq_true.1 hc)
  · rw [if_neg hc] at h; cases h
end Go.Proofs.Ytafeakcajhhkoaa.Prt
namespace Go.Proofs.Ytafeakcajhhkoaa.Prt
open Go.RowKit Go.Proofs.YtafeakcajhhkoaaW.PrintWords Go.Proofs.YtafeakcajhhkoaaW.PrintLast Go.Proofs.YtafeakcajhhkoaaW.PrintMore
attribute [local go_sem] max2_int min2_int max_two min_two max_three min_three max_four min_four   -- for this text's walks alone
set_option linter.unusedVariables false
set_option linter.unusedSimpArgs false

def batch_Put.l0 : Nat → List Int → List (S40) → Int → Int → Option (List Int × Int)
  | 0, _, _, _, _ => none
  | k + 1, x5, x23, x24, x25 => if x25 < x24 then (if 0 ≤ x25 then (if x25 < (x23.length : Int) then ((evcode_PutG.f x5 ((rd_T40 x23 x25).f0) ((rd_T40 x23 x25).f1) ((rd_T40 x23 x25).f2) ((rd_T40 x23 x25).f3)).bind fun bt145 => (if bt145.2 = 0 then (batch_Put.l0 k bt145.1 x23 x24 (wrap64 (x25 + 1))) else (some (([] : List Int), bt145.2)))) else (none)) else (none)) else (some (x5, 0))
def batch_Put.f (k : Nat) (a0_0 : Int) (l0_1 : List (S40)) : Option (List Int × Int) := (batch_May.f a0_0 l0_1).bind fun t136 => (if t136 = 0 then ((num_Put.f ([] : List Int) a0_0).bind fun t137 => ((num_Put.f t137 (l0_1.length : Int)).bind fun t140 => (batch_Put.l0 k t140 l0_1 (l0_1.length : Int) 0))) else (some (([] : List Int), t136)))
def batch_Put.T4 : Bool × List (List Nat × List Nat) := (true, [([], []), ([0], [0]), ([1], [1]), ([], []), ([3], [3]), ([4], [4]), ([2, 5, 2], [2, 5]), ([6, 6, 0, 1, 2, 3, 4, 5, 6], [6])])
def batch_Put.B4 : List Nat := [0, 1, 3, 0, 8, 24, 63, 127]
theorem batch_Put.tab4 : rtab .any (opsOf Try.f11 4) = batch_Put.T4 := by kernel_rfl
theorem batch_Put.bits4 : waitsOk batch_Put.T4.2 batch_Put.B4 = true := by kernel_rfl
set_option maxHeartbeats 8000000 in
set_option maxRecDepth 100000 in
theorem batch_Put.calls (k : Nat) (a0_0 : Int) (A0_1 : Option Addr) (c0_1 : Nat) (l0_1 : List (S40)) (r1 : List Int) (r2 : Int) (w : World) (hr0_1 : Kd.C k40 w A0_1 l0_1.length l0_1) (hc0_1 : l0_1.length ≤ c0_1) (h : batch_Put.f k a0_0 l0_1 = some (r1, r2)) :
    Calls Try.prog 11 #[.agg #[.int .i64 a0_0, .slice A0_1 l0_1.length c0_1]] w fun e w' => ∃ v0_ : Value, e = .returned (.tuple #[v0_, .int .i64 r2]) ∧ Kd.R (Kd.int .u8) 5 w' w.heap.size (fun _ => True) v0_ r1 ∧ Below w.heap.size w w' := by
  have hu24 := Try.underlying24
  have hu40 := Try.underlying40
  have HR0_1 := Aside0.mk hr0_1
  have HC0_1 := Aside0.mk hc0_1
  clear hr0_1 hc0_1
  have HB := Aside0.mk (Below.refl w.heap.size w)
  have H : ((batch_May.f a0_0 l0_1).bind fun t136 => (if t136 = 0 then ((num_Put.f ([] : List Int) a0_0).bind fun t137 => ((num_Put.f t137 (l0_1.length : Int)).bind fun t140 => (batch_Put.l0 k t140 l0_1 (l0_1.length : Int) 0))) else (some (([] : List Int), t136)))) = some (r1, r2) := h
  clear h
  replace H := Option.bind_eq_some_iff.mp H
  obtain ⟨t136, A20, H⟩ := H
  replace H : (if t136 = 0 then ((num_Put.f ([] : List Int) a0_0).bind fun t137 => ((num_Put.f t137 (l0_1.length : Int)).bind fun t140 => (batch_Put.l0 k t140 l0_1 (l0_1.length : Int) 0))) else (some (([] : List Int), t136))) = some (r1, r2) := H
  have A2 := Aside0.mk A20
  clear A20
  by_cases c3 : t136 = 0
  · rw [if_pos c3] at H
    have c3b0 : (t136 == 0) = true := beq_iff_eq.mpr c3
    have c3b1 : (t136 != 0) = false := bne_eq_false_iff_eq.mpr c3
    clear c3
    replace H := Option.bind_eq_some_iff.mp H
    obtain ⟨t137, A40, H⟩ := H
    replace H : ((num_Put.f t137 (l0_1.length : Int)).bind fun t140 => (batch_Put.l0 k t140 l0_1 (l0_1.length : Int) 0)) = some (r1, r2) := H
    have A4 := Aside0.mk A40
    clear A40
    replace H := Option.bind_eq_some_iff.mp H
    obtain ⟨t140, A50, H⟩ := H
    replace H : (batch_Put.l0 k t140 l0_1 (l0_1.length : Int) 0) = some (r1, r2) := H
    have A5 := Aside0.mk A50
    clear A50
    have H' := Aside0.mk H
    clear H
    go_enter Try.func11, Try.ntmps11
    try go_wp2_with (first | ((with_reducible refine gate_dst (N := 1) rfl ?_); refine box_event ?hg (N := 1) ?hd (cs := #[.int .i64 a0_0, .slice A0_1 l0_1.length c0_1]) (t := 24) ?hr ?_; (case hd => rfl); (case hg => rfl); (case hr => first | (go_simp; done) | (go_simp; rfl)); intro gb135 hg w6 hbox hb; have n0_ := Aside0.mk (below_step (by repeat (first | (with_reducible first | exact HB.out | apply below_alloc | apply pw_below_drewN | apply below_drew1) | exact HB.out)) hb); have n1_ := Aside0.mk (hbox); have n2_ := Aside0.mk ((by rw [hg]; exact (below_size (by repeat (first | (with_reducible first | exact HB.out | apply below_alloc | apply pw_below_drewN | apply below_drew1) | exact HB.out))) : w.heap.size ≤ gb135)); have n3_ := Aside0.mk ((by rw [hg]; exact (below_size (by repeat (first | (with_reducible first | exact HB.out | apply below_alloc | apply pw_below_drewN | apply below_drew1) | exact HB.out))) : w.heap.size ≤ gb135)); clear HB; have HB := n0_; have BK135 := n1_; have GW135 := n2_; have GE135 := n3_; clear n0_ n1_ n2_ n3_; clear hb hbox hg; have hcz7_0 : w6.cell? ⟨gb135, 0, none⟩ = some (.int .i64 a0_0) := (blk_cell BK135.out 0).trans rfl; have hcz7_1 : w6.cell? ⟨gb135, 1, none⟩ = some (.slice A0_1 l0_1.length c0_1) := (blk_cell BK135.out 1).trans rfl; have hfz7_0 := blk_frozen BK135.out 0; have hfz7_1 := blk_frozen BK135.out 1) | ((with_reducible refine gate_callee (f := 13) rfl ?_); refine goesL_ (some 11) rfl rfl Try.func13 (by kernel_rfl) rfl #[.agg #[.int .i64 a0_0, .slice A0_1 l0_1.length c0_1]] rfl (by (try simp only [List.map_toArray, List.map_cons, List.map_nil]); first | done | rfl | (simp only [List.length_drop, List.length_take]; rfl)) ?_; (with_reducible refine (batch_May.calls a0_0 _ _ l0_1 t136 _ ?side1 ?side2 A2.out).mono ?_); (case side1 => repeat (first | exact (Kd.C_below HR0_1.out HB.out) | (with_reducible refine Kd.C_alloc ?_ _) | (with_reducible refine Kd.C_drewN ?_ _) | (with_reducible refine Kd.C_drew ?_))); (case side2 => exact HC0_1.out); rintro e w8 ⟨rfl, hb⟩; refine ⟨_, rfl, ?_⟩; have n0_ := Aside0.mk (blk_below (g := gb135) (o := .cells #[.int .i64 a0_0, .slice A0_1 l0_1.length c0_1] 24 (0, 0)) (by (with_reducible repeat (first | refine blk_drewN ?_ _ | refine blk_drew ?_ | refine blk_alloc ?_ _)); exact BK135.out) hb); have n1_ := Aside0.mk (below_step (by repeat (first | (with_reducible first | exact HB.out | apply below_alloc | apply pw_below_drewN | apply below_drew1 | refine below_set ?_ GE135.out) | exact HB.out)) hb); clear BK135; clear HB; have BK135 := n0_; have HB := n1_; clear n0_ n1_; (try clear hb); (try clear hb2); (try clear hk); (try clear hi)))
    have n0_ := Aside0.mk (blk_drew BK135.out)
    have n1_ := Aside0.mk (below_drew1 HB.out)
    clear BK135
    clear HB
    have BK135 := n0_
    have HB := n1_
    clear n0_ n1_
    refine start_ (n := 8) (S := fun w' => w'.cell? ⟨gb135, 0, none⟩ = some (.int .i64 a0_0) ∧ w'.cell? ⟨gb135, 1, none⟩ = some (.slice A0_1 l0_1.length c0_1)) (ds := []) #[false, false, false, false, false, false, false, false] (by kernel_rfl) rfl rfl ⟨(blk_cell BK135.out 0).trans rfl, (blk_cell BK135.out 1).trans rfl⟩ (fun hHeld => ?_); refine with_tabW batch_Put.tab4 batch_Put.bits4 (fun HT_ HW_ => ?_)
    generalize w8.drew = w9 at BK135 HB hHeld ⊢
    refine pure_ (i := 0) (N := some 15) (v := ?_) (a' := ?_) #[true, false, false, false, false, false, false, false] rfl rfl (any_of HT_.out (by kernel_rfl)) (fun _ _ _ h => h) (Or.inl ⟨by rfl, ?_⟩) ?_ ?_
    rotate_left
    · intro w'
      go_simp
      with_reducible rfl
    rotate_left
    · simp only [Act.put, List.setIfInBounds_toArray, List.set_cons_zero, List.set_cons_succ, i64_w, i32_w]
      rfl
    refine pure_ (i := 3) (N := some 18) (v := ?_) (a' := ?_) #[true, false, false, true, false, false, false, false] rfl rfl (any_of HT_.out (by kernel_rfl)) (fun _ _ _ h => h) (Or.inl ⟨by rfl, ?_⟩) ?_ ?_
    rotate_left
    · intro w'
      go_simp
      with_reducible rfl
    rotate_left
    · simp only [Act.put, List.setIfInBounds_toArray, List.set_cons_zero, List.set_cons_succ, i64_w, i32_w]
      rfl
    refine take_ (i := 1) (N := some 16) (v := ?_) (a' := ?_) #[true, true, false, true, false, false, false, false] rfl rfl (take_ofW HT_.out HW_.out (by kernel_rfl)) (fun _ _ _ h => h) (Or.inl ⟨by rfl, ?_⟩) hHeld ?_ ?_
    rotate_left
    · rintro w' ⟨s0, s1⟩
      go_simp
      with_reducible rfl
    rotate_left
    · simp only [Act.put, List.setIfInBounds_toArray, List.set_cons_zero, List.set_cons_succ, i64_w, i32_w]
      rfl
    refine take_ (i := 4) (N := some 19) (v := ?_) (a' := ?_) #[true, true, false, true, true, false, false, false] rfl rfl (take_ofW HT_.out HW_.out (by kernel_rfl)) (fun _ _ _ h => h) (Or.inl ⟨by rfl, ?_⟩) hHeld ?_ ?_
    rotate_left
    · rintro w' ⟨s0, s1⟩
      go_simp
      with_reducible rfl
    rotate_left
    · simp only [Act.put, List.setIfInBounds_toArray, List.set_cons_zero, List.set_cons_succ, i64_w, i32_w]
      rfl
    refine pure_ (i := 5) (N := some 20) (v := ?_) (a' := ?_) #[true, true, false, true, true, true, false, false] rfl rfl (any_of HT_.out (by kernel_rfl)) (fun _ _ _ h => h) (Or.inl ⟨by rfl, ?_⟩) ?_ ?_
    rotate_left
    · intro w'
      go_simp
      with_reducible rfl
    rotate_left
    · simp only [Act.put, List.setIfInBounds_toArray, List.set_cons_zero, List.set_cons_succ, i64_w, i32_w]
      rfl
    refine one_ (i := 2) (N := some 17) #[true, true, true, true, true, true, false, false] rfl rfl (one_of HT_.out (by kernel_rfl)) (by decide) (fun K hK => ?_)
    refine goes_ Try.func20 (by kernel_rfl) rfl #[.slice none 0 0, .int .i64 a0_0] (by rfl) rfl rfl (by (try simp only [List.map_toArray, List.map_cons, List.map_nil]); first | done | rfl | (simp only [List.length_drop, List.length_take]; rfl)) ?_
    refine (num_Put.calls _ _ ([] : List Int) a0_0 t137 _ ?side1 ?side2 A4.out).mono ?_
    (case side1 => exact Kd.C_nil _ _)
    (case side2 => exact Nat.le_refl _)
    rintro e w10 ⟨v138, rfl, ho0, hb⟩
    refine ⟨_, rfl, ?_⟩
    have n0_ := Aside0.mk (Kd.R_lower ho0 (below_size (by repeat (first | (with_reducible first | exact HB.out | apply below_alloc | apply pw_below_drewN | apply below_drew1 | refine below_set ?_ GE135.out) | exact HB.out))))
    have n1_ := Aside0.mk (blk_below (g := gb135) (o := .cells #[.int .i64 a0_0, .slice A0_1 l0_1.length c0_1] 24 (0, 0)) (by (with_reducible repeat (first | refine blk_drewN ?_ _ | refine blk_drew ?_ | refine blk_alloc ?_ _)); exact BK135.out) hb)
    have n2_ := Aside0.mk (below_step (by repeat (first | (with_reducible first | exact HB.out | apply below_alloc | apply pw_below_drewN | apply below_drew1 | refine below_set ?_ GE135.out) | exact HB.out)) hb)
    clear BK135
    clear HB
    have HO139 := n0_
    have BK135 := n1_
    have HB := n2_
    clear n0_ n1_ n2_
    (try clear hb)
    (try clear hb2)
    (try clear hk)
    (try clear hi)
    (try clear ho0)
    obtain ⟨Ao11, co11, eo11⟩ := Kd.R_slice HO139.out
    (first | subst eo11 | (injection eo11 with f1_ f2_ f3_; have f4_ := f1_.symm; have f5_ := f3_.symm; clear f1_ f2_ f3_; subst f4_; subst f5_))
    refine hK.out _ _ ⟨(blk_cell BK135.out 0).trans rfl, (blk_cell BK135.out 1).trans rfl⟩ (fun hHeld => ?_)
    clear hK K
    refine norm_ (a' := ?_) ?_ ?_
    rotate_left
    · show Act.put _ (some 17) _ = _
      simp only [Act.put, List.setIfInBounds_toArray, List.set_cons_zero, List.set_cons_succ, i64_w, i32_w]
      rfl
    refine one_ (i := 6) (N := some 21) #[true, true, true, true, true, true, true, false] rfl rfl (one_of HT_.out (by kernel_rfl)) (by decide) (fun K hK => ?_)
    refine goes_ Try.func20 (by kernel_rfl) rfl #[.slice Ao11 t137.length co11, .int .i64 (l0_1.length : Int)] (by rfl) rfl rfl (by (try simp only [List.map_toArray, List.map_cons, List.map_nil]); first | done | rfl | (simp only [List.length_drop, List.length_take]; rfl)) ?_
    with_reducible refine (num_Put.calls _ _ t137 (l0_1.length : Int) t140 _ ?side1 ?side2 A5.out).mono ?_
    (case side1 => repeat (first | exact (Kd.R_reads' HO139.out).2.2 | (with_reducible refine Kd.C_alloc ?_ _) | (with_reducible refine Kd.C_drewN ?_ _) | (with_reducible refine Kd.C_drew ?_)))
    (case side2 => exact (Kd.R_reads' HO139.out).2.1)
    rintro e w12 ⟨v141, rfl, ho0, hb⟩
    refine ⟨_, rfl, ?_⟩
    have n0_ := Aside0.mk (Kd.R_elder' (by (with_reducible repeat (first | apply Kd.R_alloc | apply Kd.R_drewN | apply Kd.R_drew)); exact HO139.out) (Kd.R_base ho0) hb)
    have n1_ := Aside0.mk (Kd.R_lower (Kd.R_new' ho0 (Kd.R_lt (by (with_reducible repeat (first | apply Kd.R_alloc | apply Kd.R_drewN | apply Kd.R_drew)); exact HO139.out))) (below_size (by repeat (first | (with_reducible first | exact HB.out | apply below_alloc | apply pw_below_drewN | apply below_drew1 | refine below_set ?_ GE135.out) | exact HB.out))))
    have n2_ := Aside0.mk (blk_below (g := gb135) (o := .cells #[.int .i64 a0_0, .slice A0_1 l0_1.length c0_1] 24 (0, 0)) (by (with_reducible repeat (first | refine blk_drewN ?_ _ | refine blk_drew ?_ | refine blk_alloc ?_ _)); exact BK135.out) hb)
    have n3_ := Aside0.mk (below_step (by repeat (first | (with_reducible first | exact HB.out | apply below_alloc | apply pw_below_drewN | apply below_drew1 | refine below_set ?_ GE135.out) | exact HB.out)) hb)
    clear HO139
    clear BK135
    clear HB
    have HO139 := n0_
    have HO142 := n1_
    have BK135 := n2_
    have HB := n3_
    clear n0_ n1_ n2_ n3_
    (try clear hb)
    (try clear hb2)
    (try clear hk)
    (try clear hi)
    (try clear ho0)
    refine hK.out _ _ ⟨(blk_cell BK135.out 0).trans rfl, (blk_cell BK135.out 1).trans rfl⟩ (fun hHeld => ?_)
    clear hK K
    refine norm_ (a' := ?_) ?_ ?_
    rotate_left
    · show Act.put _ (some 21) _ = _
      simp only [Act.put, List.setIfInBounds_toArray, List.set_cons_zero, List.set_cons_succ, i64_w, i32_w]
      rfl
    refine pure_ (i := 7) (N := some 5) (v := ?_) (a' := ?_) #[true, true, true, true, true, true, true, true] rfl rfl (any_of HT_.out (by kernel_rfl)) (fun _ _ _ h => h) (Or.inl ⟨by rfl, ?_⟩) ?_ ?_
    rotate_left
    · intro w'
      go_simp
      with_reducible rfl
    rotate_left
    · simp only [Act.put, List.setIfInBounds_toArray, List.set_cons_zero, List.set_cons_succ, i64_w, i32_w]
      rfl
    refine done_ (done_of HT_.out (by kernel_rfl)) ?_
    have hcz13_0 : w12.cell? ⟨gb135, 0, none⟩ = some (.int .i64 a0_0) := (blk_cell BK135.out 0).trans rfl
    have hcz13_1 : w12.cell? ⟨gb135, 1, none⟩ = some (.slice A0_1 l0_1.length c0_1) := (blk_cell BK135.out 1).trans rfl
    have hfz13_0 := blk_frozen BK135.out 0
    have hfz13_1 := blk_frozen BK135.out 1
    try go_wp2
    go_loopg [5, 25] k (fun kq v5 v25 w' => ∃ (x5_1 : List Int) (x25_1 : Int), v25 = .int .i64 x25_1 ∧ Aside0 (batch_Put.l0 kq x5_1 l0_1 (l0_1.length : Int) x25_1 = some (r1, r2)) ∧ Aside0 (kq ≤ k) ∧ Aside0 (Kd.R (Kd.int .u8) 5 w' w.heap.size (fun _ => True) v5 x5_1) ∧ Aside0 (w'.heap[gb135]? = some (.cells #[.int .i64 a0_0, (.slice A0_1 l0_1.length c0_1)] 24 (0, 0))) ∧ Aside0 (Below w.heap.size w w'))
    case atStart => exact ⟨(t140), (0), (by first | rfl | (simp; done) | (simp [*]; done)), H', ⟨Nat.le_refl _⟩, ⟨by (with_reducible repeat (first | apply Kd.R_alloc | apply Kd.R_drewN | apply Kd.R_drew)); exact Kd.R_mono HO142.out (fun _ hk => trivial)⟩, ⟨by (with_reducible repeat (first | refine blk_drewN ?_ _ | refine blk_drew ?_ | refine blk_alloc ?_ _)); exact BK135.out⟩, ⟨by repeat (first | (with_reducible first | exact HB.out | apply below_alloc | apply pw_below_drewN | apply below_drew1 | refine below_set ?_ GE135.out) | exact HB.out)⟩⟩
    case round =>
      clear H'
      try clear c1
      try clear c2
      try clear p2
      try clear c3
      try clear c3b0
      try clear c3b1
      try clear c11
      try clear c13
      try clear hcz13_0
      try clear hcz13_1
      try clear hcz7_0
      try clear hcz7_1
      try clear hfz13_0
      try clear hfz13_1
      try clear hfz7_0
      try clear hfz7_1
      obtain ⟨x5_1, x25_1, rfl, HA, HK1, HO_5, BK135, HB⟩ := hrel
      cases gk with
      | zero => exact absurd HA.out (by simp [batch_Put.l0])
      | succ k1 =>
        have H := HA.out
        clear HA
        simp only [batch_Put.l0] at H
        by_cases c14 : x25_1 < (l0_1.length : Int)
        · rw [if_pos c14] at H
          have c14b0 : decide (x25_1 < (l0_1.length : Int)) = true := decide_eq_true c14
          clear c14
          by_cases c15 : 0 ≤ x25_1
          · rw [if_pos c15] at H
            have c15b0 : decide (0 ≤ x25_1) = true := decide_eq_true c15
            clear c15
            by_cases c16 : x25_1 < (l0_1.length : Int)
            · rw [if_pos c16] at H
              have c16b0 : decide (x25_1 < (l0_1.length : Int)) = true := decide_eq_true c16
              clear c16
              replace H := Option.bind_eq_some_iff.mp H
              obtain ⟨⟨t145, t148⟩, A170, H⟩ := H
              replace H : (if t148 = 0 then (batch_Put.l0 k1 t145 l0_1 (l0_1.length : Int) (wrap64 (x25_1 + 1))) else (some (([] : List Int), t148))) = some (r1, r2) := H
              have A17 := Aside0.mk A170
              clear A170
              by_cases c18 : t148 = 0
              · rw [if_pos c18] at H
                have c18b0 : (t148 == 0) = true := beq_iff_eq.mpr c18
                have c18b1 : (t148 != 0) = false := bne_eq_false_iff_eq.mpr c18
                clear c18
                have H' := Aside0.mk H
                clear H
                have p143 : 0 ≤ (x25_1 : Int) := of_decide_eq_true (by first | (with_reducible assumption) | assumption)
                have q143 : x25_1 < (l0_1.length : Int) := of_decide_eq_true (by first | (with_reducible assumption) | assumption)
                obtain ⟨ad143, A143_2, c143_2, A143_3, c143_3, e143, hx143_0, hx143_1, hx143_2, hx143_3, hl143_2, hi143_2, hl143_3, hi143_3⟩ := at_T40 HR0_1.out x25_1 p143 q143
                cases e143
                replace hx143_0 := (HB.out.cell (World.block_lt_of_cell? w _ hx143_0)).trans hx143_0
                replace hx143_1 := (HB.out.cell (World.block_lt_of_cell? w _ hx143_1)).trans hx143_1
                replace hx143_2 := (HB.out.cell (World.block_lt_of_cell? w _ hx143_2)).trans hx143_2
                replace hx143_3 := (HB.out.cell (World.block_lt_of_cell? w _ hx143_3)).trans hx143_3
                have HR143_2 := Aside0.mk hi143_2
                have HC143_2 := Aside0.mk hl143_2
                clear hi143_2 hl143_2
                have HR143_3 := Aside0.mk hi143_3
                have HC143_3 := Aside0.mk hl143_3
                clear hi143_3 hl143_3
                replace p143 := eq_true p143
                replace q143 := eq_true q143
                go_wp2_with (first | ((with_reducible refine gate_dst (N := 7) rfl ?_); refine box_event ?hg (N := 7) ?hd (cs := #[.string (⟨#[]⟩ : ByteArray), .string (⟨#[]⟩ : ByteArray), .slice none 0 0, .slice none 0 0]) (t := 40) ?hr ?_; (case hd => rfl); (case hg => rfl); (case hr => first | (go_simp; done) | (go_simp; rfl)); intro gb144 hg w19 hbox hb; have n0_ := Aside0.mk (Kd.R_below (by (with_reducible repeat (first | apply Kd.R_alloc | apply Kd.R_drewN | apply Kd.R_drew)); exact HO_5.out) hb); have n1_ := Aside0.mk (blk_below (g := gb135) (o := .cells #[.int .i64 a0_0, .slice (some ad143) l0_1.length c0_1] 24 (0, 0)) (by (with_reducible repeat (first | refine blk_drewN ?_ _ | refine blk_drew ?_ | refine blk_alloc ?_ _)); exact BK135.out) hb); have n2_ := Aside0.mk (below_step (by repeat (first | (with_reducible first | exact HB.out | apply below_alloc | apply pw_below_drewN | apply below_drew1 | refine below_set ?_ GE135.out) | exact HB.out)) hb); have n3_ := Aside0.mk (hbox); have n4_ := Aside0.mk ((by rw [hg]; exact (below_size (by repeat (first | (with_reducible first | exact HB.out | apply below_alloc | apply pw_below_drewN | apply below_drew1 | refine below_set ?_ GE135.out) | exact HB.out))) : w.heap.size ≤ gb144)); have n5_ := Aside0.mk ((by rw [hg]; exact (below_size (by repeat (first | (with_reducible first | exact HB.out | apply below_alloc | apply pw_below_drewN | apply below_drew1 | refine below_set ?_ GE135.out) | exact HB.out))) : w.heap.size ≤ gb144)); have n6_ := Aside0.mk ((by rw [hg]; exact Nat.ne_of_lt (blk_lt (g := gb135) (o := .cells #[.int .i64 a0_0, .slice (some ad143) l0_1.length c0_1] 24 (0, 0)) (by (with_reducible repeat (first | refine blk_drewN ?_ _ | refine blk_drew ?_ | refine blk_alloc ?_ _)); exact BK135.out)) : gb135 ≠ gb144)); have n7_ := Aside0.mk ((by rw [hg]; exact Nat.ne_of_gt (blk_lt (g := gb135) (o := .cells #[.int .i64 a0_0, .slice (some ad143) l0_1.length c0_1] 24 (0, 0)) (by (with_reducible repeat (first | refine blk_drewN ?_ _ | refine blk_drew ?_ | refine blk_alloc ?_ _)); exact BK135.out)) : gb144 ≠ gb135)); clear HO_5; clear BK135; clear HB; have HO_5 := n0_; have BK135 := n1_; have HB := n2_; have BK144 := n3_; have GW144 := n4_; have GE144 := n5_; have NB135_144 := n6_; have NB144_135 := n7_; clear n0_ n1_ n2_ n3_ n4_ n5_ n6_ n7_; clear hb hbox hg; have hnb20 := NB144_135.out; have hnc20 := NB135_144.out; have hcz21_0 : w19.cell? ⟨gb144, 0, none⟩ = some (.string (⟨#[]⟩ : ByteArray)) := (blk_cell BK144.out 0).trans rfl; have hcz21_1 : w19.cell? ⟨gb144, 1, none⟩ = some (.string (⟨#[]⟩ : ByteArray)) := (blk_cell BK144.out 1).trans rfl; have hcz21_2 : w19.cell? ⟨gb144, 2, none⟩ = some (.slice none 0 0) := (blk_cell BK144.out 2).trans rfl; have hcz21_3 : w19.cell? ⟨gb144, 3, none⟩ = some (.slice none 0 0) := (blk_cell BK144.out 3).trans rfl; have hfz21_0 := blk_frozen BK144.out 0; have hfz21_1 := blk_frozen BK144.out 1; have hfz21_2 := blk_frozen BK144.out 2; have hfz21_3 := blk_frozen BK144.out 3; obtain ⟨Ao22, co22, eo22⟩ := Kd.R_slice HO_5.out; subst eo22) | ((with_reducible refine gate_callee (f := 17) rfl ?_); refine goesL_ (some 32) rfl rfl Try.func17 (by kernel_rfl) rfl #[.slice Ao22 x5_1.length co22, .agg #[.string ((rd_T40 l0_1 x25_1).f0), .string ((rd_T40 l0_1 x25_1).f1), .slice A143_2 ((rd_T40 l0_1 x25_1).f2).length c143_2, .slice A143_3 ((rd_T40 l0_1 x25_1).f3).length c143_3]] rfl (by (try simp only [List.map_toArray, List.map_cons, List.map_nil]); first | done | rfl | (simp only [List.length_drop, List.length_take]; rfl)) ?_; (with_reducible refine (evcode_PutG.calls _ _ x5_1 ((rd_T40 l0_1 x25_1).f0) ((rd_T40 l0_1 x25_1).f1) _ _ ((rd_T40 l0_1 x25_1).f2) _ _ ((rd_T40 l0_1 x25_1).f3) t145 t148 _ ?side1 ?side2 ?side3 ?side4 ?side5 ?side6 A17.out).mono ?_); (case side1 => refine (Kd.R_reads' (e := 5) (base := w.heap.size) (ok := fun k_ => True) (n := x5_1.length) (c := co22) ?_).2.2; exact (by (with_reducible repeat (first | apply Kd.R_alloc | apply Kd.R_drewN | apply Kd.R_drew)); exact (Kd.R_mono (Kd.R_far (p := ⟨gb144, 3, none⟩) (Kd.R_far (p := ⟨gb144, 2, none⟩) (Kd.R_far (p := ⟨gb144, 1, none⟩) (Kd.R_far (p := ⟨gb144, 0, none⟩) (Kd.R_types HO_5.out BK144.out (by decide)) (fun _ hk => hk.2) (.string ((rd_T40 l0_1 x25_1).f0))) (fun _ hk => hk.2) (.string ((rd_T40 l0_1 x25_1).f1))) (fun _ hk => hk.2) (.slice A143_2 ((rd_T40 l0_1 x25_1).f2).length c143_2)) (fun _ hk => hk.2) (.slice A143_3 ((rd_T40 l0_1 x25_1).f3).length c143_3)) (fun _ h_ => h_.1)))); (case side2 => exact (Kd.R_reads' HO_5.out).2.1); (case side3 => exact Kd.C_below HR143_2.out (by repeat (first | (with_reducible first | exact HB.out | apply below_alloc | apply pw_below_drewN | apply below_drew1 | refine below_set ?_ GE135.out | refine below_set ?_ GE144.out) | exact HB.out))); (case side4 => exact HC143_2.out); (case side5 => exact Kd.C_below HR143_3.out (by repeat (first | (with_reducible first | exact HB.out | apply below_alloc | apply pw_below_drewN | apply below_drew1 | refine below_set ?_ GE135.out | refine below_set ?_ GE144.out) | exact HB.out))); (case side6 => exact HC143_3.out); rintro e w23 ⟨v146, rfl, ho0, hb⟩; refine ⟨_, rfl, ?_⟩; have n0_ := Aside0.mk (Kd.R_elder' (by (with_reducible repeat (first | apply Kd.R_alloc | apply Kd.R_drewN | apply Kd.R_drew)); exact (Kd.R_mono (Kd.R_far (p := ⟨gb144, 3, none⟩) (Kd.R_far (p := ⟨gb144, 2, none⟩) (Kd.R_far (p := ⟨gb144, 1, none⟩) (Kd.R_far (p := ⟨gb144, 0, none⟩) (Kd.R_types HO_5.out BK144.out (by decide)) (fun _ hk => hk.2) (.string ((rd_T40 l0_1 x25_1).f0))) (fun _ hk => hk.2) (.string ((rd_T40 l0_1 x25_1).f1))) (fun _ hk => hk.2) (.slice A143_2 ((rd_T40 l0_1 x25_1).f2).length c143_2)) (fun _ hk => hk.2) (.slice A143_3 ((rd_T40 l0_1 x25_1).f3).length c143_3)) (fun _ h_ => h_.1))) (Kd.R_base ho0) hb); have n1_ := Aside0.mk (Kd.R_lower (Kd.R_new' ho0 (Kd.R_lt (by (with_reducible repeat (first | apply Kd.R_alloc | apply Kd.R_drewN | apply Kd.R_drew)); exact (Kd.R_mono (Kd.R_far (p := ⟨gb144, 3, none⟩) (Kd.R_far (p := ⟨gb144, 2, none⟩) (Kd.R_far (p := ⟨gb144, 1, none⟩) (Kd.R_far (p := ⟨gb144, 0, none⟩) (Kd.R_types HO_5.out BK144.out (by decide)) (fun _ hk => hk.2) (.string ((rd_T40 l0_1 x25_1).f0))) (fun _ hk => hk.2) (.string ((rd_T40 l0_1 x25_1).f1))) (fun _ hk => hk.2) (.slice A143_2 ((rd_T40 l0_1 x25_1).f2).length c143_2)) (fun _ hk => hk.2) (.slice A143_3 ((rd_T40 l0_1 x25_1).f3).length c143_3)) (fun _ h_ => h_.1))))) (below_size (by repeat (first | (with_reducible first | exact HB.out | apply below_alloc | apply pw_below_drewN | apply below_drew1 | refine below_set ?_ GE135.out | refine below_set ?_ GE144.out) | exact HB.out)))); have n2_ := Aside0.mk (blk_below (g := gb135) (o := .cells #[.int .i64 a0_0, .slice (some ad143) l0_1.length c0_1] 24 (0, 0)) (by (with_reducible repeat (first | refine blk_drewN ?_ _ | refine blk_drew ?_ | refine blk_alloc ?_ _)); refine blk_far ?_ NB135_144.out _; (with_reducible repeat (first | refine blk_drewN ?_ _ | refine blk_drew ?_ | refine blk_alloc ?_ _)); refine blk_far ?_ NB135_144.out _; (with_reducible repeat (first | refine blk_drewN ?_ _ | refine blk_drew ?_ | refine blk_alloc ?_ _)); refine blk_far ?_ NB135_144.out _; (with_reducible repeat (first | refine blk_drewN ?_ _ | refine blk_drew ?_ | refine blk_alloc ?_ _)); refine blk_far ?_ NB135_144.out _; (with_reducible repeat (first | refine blk_drewN ?_ _ | refine blk_drew ?_ | refine blk_alloc ?_ _)); exact BK135.out) hb); have n3_ := Aside0.mk (blk_below (g := gb144) (o := .cells #[.string ((rd_T40 l0_1 x25_1).f0), .string ((rd_T40 l0_1 x25_1).f1), .slice A143_2 ((rd_T40 l0_1 x25_1).f2).length c143_2, .slice A143_3 ((rd_T40 l0_1 x25_1).f3).length c143_3] 40 (0, 0)) (by (with_reducible repeat (first | refine blk_drewN ?_ _ | refine blk_drew ?_ | refine blk_alloc ?_ _)); refine blk_put (cs := #[.string ((rd_T40 l0_1 x25_1).f0), .string ((rd_T40 l0_1 x25_1).f1), .slice A143_2 ((rd_T40 l0_1 x25_1).f2).length c143_2, .slice none 0 0]) ?_ 3 _ rfl; (with_reducible repeat (first | refine blk_drewN ?_ _ | refine blk_drew ?_ | refine blk_alloc ?_ _)); refine blk_put (cs := #[.string ((rd_T40 l0_1 x25_1).f0), .string ((rd_T40 l0_1 x25_1).f1), .slice none 0 0, .slice none 0 0]) ?_ 2 _ rfl; (with_reducible repeat (first | refine blk_drewN ?_ _ | refine blk_drew ?_ | refine blk_alloc ?_ _)); refine blk_put (cs := #[.string ((rd_T40 l0_1 x25_1).f0), .string (⟨#[]⟩ : ByteArray), .slice none 0 0, .slice none 0 0]) ?_ 1 _ rfl; (with_reducible repeat (first | refine blk_drewN ?_ _ | refine blk_drew ?_ | refine blk_alloc ?_ _)); refine blk_put (cs := #[.string (⟨#[]⟩ : ByteArray), .string (⟨#[]⟩ : ByteArray), .slice none 0 0, .slice none 0 0]) ?_ 0 _ rfl; (with_reducible repeat (first | refine blk_drewN ?_ _ | refine blk_drew ?_ | refine blk_alloc ?_ _)); exact BK144.out) hb); have n4_ := Aside0.mk (below_step (by repeat (first | (with_reducible first | exact HB.out | apply below_alloc | apply pw_below_drewN | apply below_drew1 | refine below_set ?_ GE135.out | refine below_set ?_ GE144.out) | exact HB.out)) hb); clear HO_5; clear BK135; clear BK144; clear HB; have HO_5 := n0_; have HO147 := n1_; have BK135 := n2_; have BK144 := n3_; have HB := n4_; clear n0_ n1_ n2_ n3_ n4_; (try clear hb); (try clear hb2); (try clear hk); (try clear hi); (try clear ho0)))
                go_roundg k1
                case measure => have := HK1.out; omega
                case rel => exact ⟨(t145), (wrap64 (x25_1 + 1)), (by first | rfl | (simp; done) | (simp [*]; done)), H', ⟨by have := HK1.out; omega⟩, ⟨by (with_reducible repeat (first | apply Kd.R_alloc | apply Kd.R_drewN | apply Kd.R_drew)); exact Kd.R_mono HO147.out (fun _ hk => trivial)⟩, ⟨by (with_reducible repeat (first | refine blk_drewN ?_ _ | refine blk_drew ?_ | refine blk_alloc ?_ _)); exact BK135.out⟩, ⟨by repeat (first | (with_reducible first | exact HB.out | apply below_alloc | apply pw_below_drewN | apply below_drew1 | refine below_set ?_ GE135.out | refine below_set ?_ GE144.out) | exact HB.out)⟩⟩
              · rw [if_neg c18] at H
                have c18b0 : (t148 == 0) = false := beq_eq_false_iff_ne.mpr c18
                have c18b1 : (t148 != 0) = true := bne_iff_ne.mpr c18
                simp only [Option.some.injEq, Prod.mk.injEq] at H
                obtain ⟨rfl, rfl⟩ := H
                have p143 : 0 ≤ (x25_1 : Int) := of_decide_eq_true (by first | (with_reducible assumption) | assumption)
                have q143 : x25_1 < (l0_1.length : Int) := of_decide_eq_true (by first | (with_reducible assumption) | assumption)
                obtain ⟨ad143, A143_2, c143_2, A143_3, c143_3, e143, hx143_0, hx143_1, hx143_2, hx143_3, hl143_2, hi143_2, hl143_3, hi143_3⟩ := at_T40 HR0_1.out x25_1 p143 q143
                cases e143
                replace hx143_0 := (HB.out.cell (World.block_lt_of_cell? w _ hx143_0)).trans hx143_0
                replace hx143_1 := (HB.out.cell (World.block_lt_of_cell? w _ hx143_1)).trans hx143_1
                replace hx143_2 := (HB.out.cell (World.block_lt_of_cell? w _ hx143_2)).trans hx143_2
                replace hx143_3 := (HB.out.cell (World.block_lt_of_cell? w _ hx143_3)).trans hx143_3
                have HR143_2 := Aside0.mk hi143_2
                have HC143_2 := Aside0.mk hl143_2
                clear hi143_2 hl143_2
                have HR143_3 := Aside0.mk hi143_3
                have HC143_3 := Aside0.mk hl143_3
                clear hi143_3 hl143_3
                replace p143 := eq_true p143
                replace q143 := eq_true q143
                go_wp2_with (first | ((with_reducible refine gate_dst (N := 7) rfl ?_); refine box_event ?hg (N := 7) ?hd (cs := #[.string (⟨#[]⟩ : ByteArray), .string (⟨#[]⟩ : ByteArray), .slice none 0 0, .slice none 0 0]) (t := 40) ?hr ?_; (case hd => rfl); (case hg => rfl); (case hr => first | (go_simp; done) | (go_simp; rfl)); intro gb144 hg w24 hbox hb; have n0_ := Aside0.mk (Kd.R_below (by (with_reducible repeat (first | apply Kd.R_alloc | apply Kd.R_drewN | apply Kd.R_drew)); exact HO_5.out) hb); have n1_ := Aside0.mk (blk_below (g := gb135) (o := .cells #[.int .i64 a0_0, .slice (some ad143) l0_1.length c0_1] 24 (0, 0)) (by (with_reducible repeat (first | refine blk_drewN ?_ _ | refine blk_drew ?_ | refine blk_alloc ?_ _)); exact BK135.out) hb); have n2_ := Aside0.mk (below_step (by repeat (first | (with_reducible first | exact HB.out | apply below_alloc | apply pw_below_drewN | apply below_drew1 | refine below_set ?_ GE135.out) | exact HB.out)) hb); have n3_ := Aside0.mk (hbox); have n4_ := Aside0.mk ((by rw [hg]; exact (below_size (by repeat (first | (with_reducible first | exact HB.out | apply below_alloc | apply pw_below_drewN | apply below_drew1 | refine below_set ?_ GE135.out) | exact HB.out))) : w.heap.size ≤ gb144)); have n5_ := Aside0.mk ((by rw [hg]; exact (below_size (by repeat (first | (with_reducible first | exact HB.out | apply below_alloc | apply pw_below_drewN | apply below_drew1 | refine below_set ?_ GE135.out) | exact HB.out))) : w.heap.size ≤ gb144)); have n6_ := Aside0.mk ((by rw [hg]; exact Nat.ne_of_lt (blk_lt (g := gb135) (o := .cells #[.int .i64 a0_0, .slice (some ad143) l0_1.length c0_1] 24 (0, 0)) (by (with_reducible repeat (first | refine blk_drewN ?_ _ | refine blk_drew ?_ | refine blk_alloc ?_ _)); exact BK135.out)) : gb135 ≠ gb144)); have n7_ := Aside0.mk ((by rw [hg]; exact Nat.ne_of_gt (blk_lt (g := gb135) (o := .cells #[.int .i64 a0_0, .slice (some ad143) l0_1.length c0_1] 24 (0, 0)) (by (with_reducible repeat (first | refine blk_drewN ?_ _ | refine blk_drew ?_ | refine blk_alloc ?_ _)); exact BK135.out)) : gb144 ≠ gb135)); clear HO_5; clear BK135; clear HB; have HO_5 := n0_; have BK135 := n1_; have HB := n2_; have BK144 := n3_; have GW144 := n4_; have GE144 := n5_; have NB135_144 := n6_; have NB144_135 := n7_; clear n0_ n1_ n2_ n3_ n4_ n5_ n6_ n7_; clear hb hbox hg; have hnb25 := NB144_135.out; have hnc25 := NB135_144.out; have hcz26_0 : w24.cell? ⟨gb144, 0, none⟩ = some (.string (⟨#[]⟩ : ByteArray)) := (blk_cell BK144.out 0).trans rfl; have hcz26_1 : w24.cell? ⟨gb144, 1, none⟩ = some (.string (⟨#[]⟩ : ByteArray)) := (blk_cell BK144.out 1).trans rfl; have hcz26_2 : w24.cell? ⟨gb144, 2, none⟩ = some (.slice none 0 0) := (blk_cell BK144.out 2).trans rfl; have hcz26_3 : w24.cell? ⟨gb144, 3, none⟩ = some (.slice none 0 0) := (blk_cell BK144.out 3).trans rfl; have hfz26_0 := blk_frozen BK144.out 0; have hfz26_1 := blk_frozen BK144.out 1; have hfz26_2 := blk_frozen BK144.out 2; have hfz26_3 := blk_frozen BK144.out 3; obtain ⟨Ao27, co27, eo27⟩ := Kd.R_slice HO_5.out; subst eo27) | ((with_reducible refine gate_callee (f := 17) rfl ?_); refine goesL_ (some 32) rfl rfl Try.func17 (by kernel_rfl) rfl #[.slice Ao27 x5_1.length co27, .agg #[.string ((rd_T40 l0_1 x25_1).f0), .string ((rd_T40 l0_1 x25_1).f1), .slice A143_2 ((rd_T40 l0_1 x25_1).f2).length c143_2, .slice A143_3 ((rd_T40 l0_1 x25_1).f3).length c143_3]] rfl (by (try simp only [List.map_toArray, List.map_cons, List.map_nil]); first | done | rfl | (simp only [List.length_drop, List.length_take]; rfl)) ?_; (with_reducible refine (evcode_PutG.calls _ _ x5_1 ((rd_T40 l0_1 x25_1).f0) ((rd_T40 l0_1 x25_1).f1) _ _ ((rd_T40 l0_1 x25_1).f2) _ _ ((rd_T40 l0_1 x25_1).f3) t145 t148 _ ?side1 ?side2 ?side3 ?side4 ?side5 ?side6 A17.out).mono ?_); (case side1 => refine (Kd.R_reads' (e := 5) (base := w.heap.size) (ok := fun k_ => True) (n := x5_1.length) (c := co27) ?_).2.2; exact (by (with_reducible repeat (first | apply Kd.R_alloc | apply Kd.R_drewN | apply Kd.R_drew)); exact (Kd.R_mono (Kd.R_far (p := ⟨gb144, 3, none⟩) (Kd.R_far (p := ⟨gb144, 2, none⟩) (Kd.R_far (p := ⟨gb144, 1, none⟩) (Kd.R_far (p := ⟨gb144, 0, none⟩) (Kd.R_types HO_5.out BK144.out (by decide)) (fun _ hk => hk.2) (.string ((rd_T40 l0_1 x25_1).f0))) (fun _ hk => hk.2) (.string ((rd_T40 l0_1 x25_1).f1))) (fun _ hk => hk.2) (.slice A143_2 ((rd_T40 l0_1 x25_1).f2).length c143_2)) (fun _ hk => hk.2) (.slice A143_3 ((rd_T40 l0_1 x25_1).f3).length c143_3)) (fun _ h_ => h_.1)))); (case side2 => exact (Kd.R_reads' HO_5.out).2.1); (case side3 => exact Kd.C_below HR143_2.out (by repeat (first | (with_reducible first | exact HB.out | apply below_alloc | apply pw_below_drewN | apply below_drew1 | refine below_set ?_ GE135.out | refine below_set ?_ GE144.out) | exact HB.out))); (case side4 => exact HC143_2.out); (case side5 => exact Kd.C_below HR143_3.out (by repeat (first | (with_reducible first | exact HB.out | apply below_alloc | apply pw_below_drewN | apply below_drew1 | refine below_set ?_ GE135.out | refine below_set ?_ GE144.out) | exact HB.out))); (case side6 => exact HC143_3.out); rintro e w28 ⟨v146, rfl, ho0, hb⟩; refine ⟨_, rfl, ?_⟩; have n0_ := Aside0.mk (Kd.R_elder' (by (with_reducible repeat (first | apply Kd.R_alloc | apply Kd.R_drewN | apply Kd.R_drew)); exact (Kd.R_mono (Kd.R_far (p := ⟨gb144, 3, none⟩) (Kd.R_far (p := ⟨gb144, 2, none⟩) (Kd.R_far (p := ⟨gb144, 1, none⟩) (Kd.R_far (p := ⟨gb144, 0, none⟩) (Kd.R_types HO_5.out BK144.out (by decide)) (fun _ hk => hk.2) (.string ((rd_T40 l0_1 x25_1).f0))) (fun _ hk => hk.2) (.string ((rd_T40 l0_1 x25_1).f1))) (fun _ hk => hk.2) (.slice A143_2 ((rd_T40 l0_1 x25_1).f2).length c143_2)) (fun _ hk => hk.2) (.slice A143_3 ((rd_T40 l0_1 x25_1).f3).length c143_3)) (fun _ h_ => h_.1))) (Kd.R_base ho0) hb); have n1_ := Aside0.mk (Kd.R_lower (Kd.R_new' ho0 (Kd.R_lt (by (with_reducible repeat (first | apply Kd.R_alloc | apply Kd.R_drewN | apply Kd.R_drew)); exact (Kd.R_mono (Kd.R_far (p := ⟨gb144, 3, none⟩) (Kd.R_far (p := ⟨gb144, 2, none⟩) (Kd.R_far (p := ⟨gb144, 1, none⟩) (Kd.R_far (p := ⟨gb144, 0, none⟩) (Kd.R_types HO_5.out BK144.out (by decide)) (fun _ hk => hk.2) (.string ((rd_T40 l0_1 x25_1).f0))) (fun _ hk => hk.2) (.string ((rd_T40 l0_1 x25_1).f1))) (fun _ hk => hk.2) (.slice A143_2 ((rd_T40 l0_1 x25_1).f2).length c143_2)) (fun _ hk => hk.2) (.slice A143_3 ((rd_T40 l0_1 x25_1).f3).length c143_3)) (fun _ h_ => h_.1))))) (below_size (by repeat (first | (with_reducible first | exact HB.out | apply below_alloc | apply pw_below_drewN | apply below_drew1 | refine below_set ?_ GE135.out | refine below_set ?_ GE144.out) | exact HB.out)))); have n2_ := Aside0.mk (blk_below (g := gb135) (o := .cells #[.int .i64 a0_0, .slice (some ad143) l0_1.length c0_1] 24 (0, 0)) (by (with_reducible repeat (first | refine blk_drewN ?_ _ | refine blk_drew ?_ | refine blk_alloc ?_ _)); refine blk_far ?_ NB135_144.out _; (with_reducible repeat (first | refine blk_drewN ?_ _ | refine blk_drew ?_ | refine blk_alloc ?_ _)); refine blk_far ?_ NB135_144.out _; (with_reducible repeat (first | refine blk_drewN ?_ _ | refine blk_drew ?_ | refine blk_alloc ?_ _)); refine blk_far ?_ NB135_144.out _; (with_reducible repeat (first | refine blk_drewN ?_ _ | refine blk_drew ?_ | refine blk_alloc ?_ _)); refine blk_far ?_ NB135_144.out _; (with_reducible repeat (first | refine blk_drewN ?_ _ | refine blk_drew ?_ | refine blk_alloc ?_ _)); exact BK135.out) hb); have n3_ := Aside0.mk (blk_below (g := gb144) (o := .cells #[.string ((rd_T40 l0_1 x25_1).f0), .string ((rd_T40 l0_1 x25_1).f1), .slice A143_2 ((rd_T40 l0_1 x25_1).f2).length c143_2, .slice A143_3 ((rd_T40 l0_1 x25_1).f3).length c143_3] 40 (0, 0)) (by (with_reducible repeat (first | refine blk_drewN ?_ _ | refine blk_drew ?_ | refine blk_alloc ?_ _)); refine blk_put (cs := #[.string ((rd_T40 l0_1 x25_1).f0), .string ((rd_T40 l0_1 x25_1).f1), .slice A143_2 ((rd_T40 l0_1 x25_1).f2).length c143_2, .slice none 0 0]) ?_ 3 _ rfl; (with_reducible repeat (first | refine blk_drewN ?_ _ | refine blk_drew ?_ | refine blk_alloc ?_ _)); refine blk_put (cs := #[.string ((rd_T40 l0_1 x25_1).f0), .string ((rd_T40 l0_1 x25_1).f1), .slice none 0 0, .slice none 0 0]) ?_ 2 _ rfl; (with_reducible repeat (first | refine blk_drewN ?_ _ | refine blk_drew ?_ | refine blk_alloc ?_ _)); refine blk_put (cs := #[.string ((rd_T40 l0_1 x25_1).f0), .string (⟨#[]⟩ : ByteArray), .slice none 0 0, .slice none 0 0]) ?_ 1 _ rfl; (with_reducible repeat (first | refine blk_drewN ?_ _ | refine blk_drew ?_ | refine blk_alloc ?_ _)); refine blk_put (cs := #[.string (⟨#[]⟩ : ByteArray), .string (⟨#[]⟩ : ByteArray), .slice none 0 0, .slice none 0 0]) ?_ 0 _ rfl; (with_reducible repeat (first | refine blk_drewN ?_ _ | refine blk_drew ?_ | refine blk_alloc ?_ _)); exact BK144.out) hb); have n4_ := Aside0.mk (below_step (by repeat (first | (with_reducible first | exact HB.out | apply below_alloc | apply pw_below_drewN | apply below_drew1 | refine below_set ?_ GE135.out | refine below_set ?_ GE144.out) | exact HB.out)) hb); clear HO_5; clear BK135; clear BK144; clear HB; have HO_5 := n0_; have HO147 := n1_; have BK135 := n2_; have BK144 := n3_; have HB := n4_; clear n0_ n1_ n2_ n3_ n4_; (try clear hb); (try clear hb2); (try clear hk); (try clear hi); (try clear ho0)))
                go_ret2
                exact ⟨_, by first | rfl | (simp [errW_none, errW_some] <;> rfl) | (simp [*, errW_none, errW_some] <;> rfl), by first | exact Kd.R_nil _ _ _ _ _ | exact Kd.N_nil _ _ _ _ _ | exact Kd.V_nil _ _ _ _ _ | exact Kd.Q_nil _ _ _ _ _ | exact Kd.S_nil _ _ _ _ _, by repeat (first | (with_reducible first | exact HB.out | apply below_alloc | apply pw_below_drewN | apply below_drew1 | refine below_set ?_ GE135.out | refine below_set ?_ GE144.out) | exact HB.out)⟩
            · rw [if_neg c16] at H
              exact absurd H (by simp)
          · rw [if_neg c15] at H
            exact absurd H (by simp)
        · rw [if_neg c14] at H
          have c14b0 : decide (x25_1 < (l0_1.length : Int)) = false := decide_eq_false c14
          clear c14
          simp only [Option.some.injEq, Prod.mk.injEq] at H
          obtain ⟨rfl, rfl⟩ := H
          go_wp2
          go_ret2
          exact ⟨_, by first | rfl | (simp [errW_none, errW_some] <;> rfl) | (simp [*, errW_none, errW_some] <;> rfl), by (with_reducible repeat (first | apply Kd.R_alloc | apply Kd.R_drewN | apply Kd.R_drew)); exact HO_5.out, by repeat (first | (with_reducible first | exact HB.out | apply below_alloc | apply pw_below_drewN | apply below_drew1 | refine below_set ?_ GE135.out) | exact HB.out)⟩
  · rw [if_neg c3] at H
    have c3b0 : (t136 == 0) = false := beq_eq_false_iff_ne.mpr c3
    have c3b1 : (t136 != 0) = true := bne_iff_ne.mpr c3
    simp only [Option.some.injEq, Prod.mk.injEq] at H
    obtain ⟨rfl, rfl⟩ := H
    go_enter Try.func11, Try.ntmps11
    go_wp2_with (first | ((with_reducible refine gate_dst (N := 1) rfl ?_); refine box_event ?hg (N := 1) ?hd (cs := #[.int .i64 a0_0, .slice A0_1 l0_1.length c0_1]) (t := 24) ?hr ?_; (case hd => rfl); (case hg => rfl); (case hr => first | (go_simp; done) | (go_simp; rfl)); intro gb135 hg w29 hbox hb; have n0_ := Aside0.mk (below_step (by repeat (first | (with_reducible first | exact HB.out | apply below_alloc | apply pw_below_drewN | apply below_drew1) | exact HB.out)) hb); have n1_ := Aside0.mk (hbox); have n2_ := Aside0.mk ((by rw [hg]; exact (below_size (by repeat (first | (with_reducible first | exact HB.out | apply below_alloc | apply pw_below_drewN | apply below_drew1) | exact HB.out))) : w.heap.size ≤ gb135)); have n3_ := Aside0.mk ((by rw [hg]; exact (below_size (by repeat (first | (with_reducible first | exact HB.out | apply below_alloc | apply pw_below_drewN | apply below_drew1) | exact HB.out))) : w.heap.size ≤ gb135)); clear HB; have HB := n0_; have BK135 := n1_; have GW135 := n2_; have GE135 := n3_; clear n0_ n1_ n2_ n3_; clear hb hbox hg; have hcz30_0 : w29.cell? ⟨gb135, 0, none⟩ = some (.int .i64 a0_0) := (blk_cell BK135.out 0).trans rfl; have hcz30_1 : w29.cell? ⟨gb135, 1, none⟩ = some (.slice A0_1 l0_1.length c0_1) := (blk_cell BK135.out 1).trans rfl; have hfz30_0 := blk_frozen BK135.out 0; have hfz30_1 := blk_frozen BK135.out 1) | ((with_reducible refine gate_callee (f := 13) rfl ?_); refine goesL_ (some 11) rfl rfl Try.func13 (by kernel_rfl) rfl #[.agg #[.int .i64 a0_0, .slice A0_1 l0_1.length c0_1]] rfl (by (try simp only [List.map_toArray, List.map_cons, List.map_nil]); first | done | rfl | (simp only [List.length_drop, List.length_take]; rfl)) ?_; (with_reducible refine (batch_May.calls a0_0 _ _ l0_1 t136 _ ?side1 ?side2 A2.out).mono ?_); (case side1 => repeat (first | exact (Kd.C_below HR0_1.out HB.out) | (with_reducible refine Kd.C_alloc ?_ _) | (with_reducible refine Kd.C_drewN ?_ _) | (with_reducible refine Kd.C_drew ?_))); (case side2 => exact HC0_1.out); rintro e w31 ⟨rfl, hb⟩; refine ⟨_, rfl, ?_⟩; have n0_ := Aside0.mk (blk_below (g := gb135) (o := .cells #[.int .i64 a0_0, .slice A0_1 l0_1.length c0_1] 24 (0, 0)) (by (with_reducible repeat (first | refine blk_drewN ?_ _ | refine blk_drew ?_ | refine blk_alloc ?_ _)); exact BK135.out) hb); have n1_ := Aside0.mk (below_step (by repeat (first | (with_reducible first | exact HB.out | apply below_alloc | apply pw_below_drewN | apply below_drew1 | refine below_set ?_ GE135.out) | exact HB.out)) hb); clear BK135; clear HB; have BK135 := n0_; have HB := n1_; clear n0_ n1_; (try clear hb); (try clear hb2); (try clear hk); (try clear hi)))
    go_ret2
    exact ⟨_, by first | rfl | (simp [errW_none, errW_some] <;> rfl) | (simp [*, errW_none, errW_some] <;> rfl), by first | exact Kd.R_nil _ _ _ _ _ | exact Kd.N_nil _ _ _ _ _ | exact Kd.V_nil _ _ _ _ _ | exact Kd.Q_nil _ _ _ _ _ | exact Kd.S_nil _ _ _ _ _, by repeat (first | (with_reducible first | exact HB.out | apply below_alloc | apply pw_below_drewN | apply below_drew1 | refine below_set ?_ GE135.out) | exact HB.out)⟩

end Go.Proofs.Ytafeakcajhhkoaa.Prt
namespace Go.Proofs.Ytafeakcajhhkoaa.Prt
open Go.RowKit Go.Proofs.YtafeakcajhhkoaaW.PrintWords Go.Proofs.YtafeakcajhhkoaaW.PrintLast Go.Proofs.YtafeakcajhhkoaaW.PrintMore Go.Proofs.Ytafeakcajhhkoaa.Num Go.Proofs.Ytafeakcajhhkoaa.Nam
set_option linter.unusedVariables false
set_option linter.unusedSimpArgs false

theorem fitX_iff {x : S40} : fitX x = true ↔ x.f0.size ≤ 9223372036854775807 ∧ x.f1.size ≤ 9223372036854775807 ∧ (∀ y ∈ x.f2, y.size ≤ 9223372036854775807) ∧ (∀ y ∈ x.f3, y.f0.size ≤ 9223372036854775807) ∧ x.f3.length < 8796093022208 := fitE_iff
theorem OkX.fit {x : S40} (h : OkX x) : fitX x = true ∧ x.f2.length ≤ 9223372036854775807 := by
  obtain ⟨z1, z2, z3, z4, z5, z6⟩ := OkE.sizes h
  have h6 := h.ht6
  have h4 := h.hf4
  exact ⟨fitX_iff.2 ⟨z1, z2, z3, fun y hy => (z4 y hy).1, by omega⟩, by omega⟩
theorem evE_zero {x : S40} : evE x = 0 ↔ OkX x := okE_iff _ _ _ _
theorem firstE_zero {l : List S40} : firstE l = 0 ↔ ∀ x ∈ l, OkX x := by
  induction l with
  | nil => simp [firstE]
  | cons x r ih =>
    rw [firstE]
    by_cases h : evE x = 0
    · rw [if_pos h, ih]
      simp only [List.mem_cons, forall_eq_or_imp]
      exact ⟨fun g => ⟨evE_zero.1 h, g⟩, fun g => g.2⟩
    · rw [if_neg h]
      exact ⟨fun g => absurd g h, fun g => absurd (evE_zero.2 (g x (by simp))) h⟩
/-- A batch as bytes. -/
def encB (a : Int) (l : List S40) : List Int := enc a ++ (enc (l.length : Int) ++ encEs l)
/-- What a batch is in which nothing is wrong. -/
structure OkB (a : Int) (l : List S40) : Prop where
  h1 : 1 ≤ l.length
  h16 : l.length ≤ 16
  ho : ∀ x ∈ l, OkX x
  h0 : 0 ≤ a
  hm : a ≤ 1048576 - (l.length : Int)
theorem mayB_zero {a : Int} {l : List S40} : mayB a l = 0 ↔ OkB a l := by
  unfold mayB
  constructor
  · intro h
    by_cases c1 : l.length = 0
    · rw [if_pos c1] at h; cases h
    rw [if_neg c1] at h
    by_cases c2 : 16 < l.length
    · rw [if_pos c2] at h; cases h
    rw [if_neg c2] at h
    by_cases c3 : firstE l ≠ 0
    · rw [if_pos c3] at h; exact absurd h c3
    rw [if_neg c3] at h
    by_cases c4 : a < 0 ∨ 1048576 - (l.length : Int) < a
    · rw [if_pos c4] at h; cases h
    exact ⟨by omega, by omega, firstE_zero.1 (by simpa using c3), by omega, by omega⟩
  · rintro ⟨h1, h2, h3, h4, h5⟩
    rw [if_neg (by omega), if_neg (by omega), if_neg (by rw [firstE_zero.2 h3]; simp), if_neg (by omega)]
theorem OkB.fit {a : Int} {l : List S40} (h : OkB a l) : l.all fitX = true := List.all_eq_true.2 fun x hx => (h.ho x hx).fit.1
theorem putG_okX {l0 : List Int} {x : S40} (hl : l0.length ≤ 140737488340000) (h : OkX x) : evcode_PutG.f l0 x.f0 x.f1 x.f2 x.f3 = some (l0 ++ encX x, 0) := by
  rw [putG_ok hl h.fit.2 h.fit.1, if_pos ((okE_iff _ _ _ _).2 h)]; rfl
theorem batchPut_loop (l : List S40) (hl : l.length ≤ 16) (ho : ∀ x ∈ l, OkX x) : ∀ (n i k : Nat) (x : List Int), i + n = l.length → n < k → x.length ≤ 100 + 700 * i → batch_Put.l0 k x l (l.length : Int) (i : Int) = some (x ++ encEs (l.drop i), 0) := by
  intro n
  induction n with
  | zero =>
    intro i k x hi hk hx
    obtain ⟨k, rfl⟩ : ∃ m, k = m + 1 := ⟨k - 1, by omega⟩
    rw [batch_Put.l0, if_neg (by omega), List.drop_eq_nil_of_le (by omega)]
    simp [encEs]
  | succ n ih =>
    intro i k x hi hk hx
    obtain ⟨k, rfl⟩ : ∃ m, k = m + 1 := ⟨k - 1, by omega⟩
    have hm := ho _ (rdE_mem (l := l) (i := i) (by omega))
    have hz := encX_size hm
    rw [batch_Put.l0, if_pos (by omega), if_pos (by omega), if_pos (by omega), putG_okX (by omega) hm, drop_rdE l i (by omega), encEs_cons]
    simp only [Option.bind_some, if_true]
    rw [succW i (by omega), ih (i + 1) k _ (by omega) (by omega) (by rw [List.length_append]; omega), List.append_assoc]
def batch_PutG.f (a0_0 : Int) (l0_1 : List (S40)) : Option (List Int × Int) := if l0_1.all fitX = true then some (if mayB a0_0 l0_1 = 0 then (encB a0_0 l0_1, 0) else ([], mayB a0_0 l0_1)) else none
theorem batch_PutG.val {a0_0 : Int} {l0_1 : List (S40)} {r1 : List Int} {r2 : Int} (h : batch_PutG.f a0_0 l0_1 = some (r1, r2)) : ∃ k, batch_Put.f k a0_0 l0_1 = some (r1, r2) := by
  unfold batch_PutG.f at h
  by_cases hc : l0_1.all fitX = true
  · rw [if_pos hc] at h
    rw [← h]
    refine ⟨17, ?_⟩
    have m1 : batch_May.f a0_0 l0_1 = some (mayB a0_0 l0_1) := if_pos hc
    unfold batch_Put.f
    rw [m1]
    simp only [Option.bind_some]
    by_cases h0 : mayB a0_0 l0_1 = 0
    · obtain ⟨h1, h2, h3, h4, h5⟩ := mayB_zero.1 h0
      have e1 := enc_len (x := a0_0) ⟨by omega, by omega⟩
      have e2 := enc_len (x := (l0_1.length : Int)) ⟨by omega, by omega⟩
      have m2 : num_Put.f [] a0_0 = some ([] ++ enc a0_0) := if_pos ⟨by simp, by omega, by omega⟩
      have m3 : num_Put.f (enc a0_0) (l0_1.length : Int) = some (enc a0_0 ++ enc (l0_1.length : Int)) := if_pos ⟨by omega, by omega, by omega⟩
      rw [if_pos h0, if_pos h0, m2]
      simp only [Option.bind_some, List.nil_append]
      rw [m3]
      simp only [Option.bind_some]
      have := batchPut_loop l0_1 h2 h3 l0_1.length 0 17 (enc a0_0 ++ enc (l0_1.length : Int)) (by omega) (by omega) (by rw [List.length_append]; omega)
      rw [List.drop_zero, List.append_assoc] at this
      exact this
    · rw [if_neg h0, if_neg h0]
  · rw [if_neg hc] at h; cases h
theorem batch_PutG.calls (a0_0 : Int) (A0_1 : Option Addr) (c0_1 : Nat) (l0_1 : List (S40)) (r1 : List Int) (r2 : Int) (w : World) (hr0_1 : Kd.C k40 w A0_1 l0_1.length l0_1) (hc0_1 : l0_1.length ≤ c0_1) (h : batch_PutG.f a0_0 l0_1 = some (r1, r2)) :
    Calls Try.prog 11 #[.agg #[.int .i64 a0_0, .slice A0_1 l0_1.length c0_1]] w fun e w' => ∃ v0_ : Value, e = .returned (.tuple #[v0_, .int .i64 r2]) ∧ Kd.R (Kd.int .u8) 5 w' w.heap.size (fun _ => True) v0_ r1 ∧ Below w.heap.size w w' := by
  obtain ⟨k, hk⟩ := batch_PutG.val h
  exact batch_Put.calls k a0_0 A0_1 c0_1 l0_1 r1 r2 w hr0_1 hc0_1 hk
end Go.Proofs.Ytafeakcajhhkoaa.Prt
namespace Go.Proofs.Ytafeakcajhhkoaa.Prt
open Go.RowKit Go.Proofs.YtafeakcajhhkoaaW.PrintWords Go.Proofs.YtafeakcajhhkoaaW.PrintLast Go.Proofs.YtafeakcajhhkoaaW.PrintMore
attribute [local go_sem] max2_int min2_int max_two min_two max_three min_three max_four min_four   -- for this text's walks alone
set_option linter.unusedVariables false
set_option linter.unusedSimpArgs false

end Go.Proofs.Ytafeakcajhhkoaa.Prt
namespace Go.Proofs.Ytafeakcajhhkoaa.Prt
open Go.RowKit Go.Proofs.YtafeakcajhhkoaaW.PrintWords Go.Proofs.YtafeakcajhhkoaaW.PrintLast Go.Proofs.YtafeakcajhhkoaaW.PrintMore Go.Proofs.Ytafeakcajhhkoaa.Num Go.Proofs.Ytafeakcajhhkoaa.Nam
set_option linter.unusedVariables false
set_option linter.unusedSimpArgs false

def fitX2 (x : S40) : Bool := fitX x && decide (x.f2.length ≤ 9223372036854775807)
theorem fitX2_all {l : List S40} (h : l.all fitX2 = true) : (∀ x ∈ l, fitX x = true ∧ x.f2.length ≤ 9223372036854775807) ∧ l.all fitX = true := by
  have : ∀ x ∈ l, fitX x = true ∧ x.f2.length ≤ 9223372036854775807 := fun x hx => by
    have := List.all_eq_true.1 h x hx
    unfold fitX2 at this
    rwa [Bool.and_eq_true, decide_eq_true_iff] at this
  exact ⟨this, List.all_eq_true.2 fun x hx => (this x hx).1⟩
end Go.Proofs.Ytafeakcajhhkoaa.Prt
namespace Go.Proofs.Ytafeakcajhhkoaa.Prt
open Go.RowKit Go.Proofs.YtafeakcajhhkoaaW.PrintWords Go.Proofs.YtafeakcajhhkoaaW.PrintLast Go.Proofs.YtafeakcajhhkoaaW.PrintMore
attribute [local go_sem] max2_int min2_int max_two min_two max_three min_three max_four min_four   -- for this text's walks alone
set_option linter.unusedVariables false
set_option linter.unusedSimpArgs false

end Go.Proofs.Ytafeakcajhhkoaa.Prt
namespace Go.Proofs.Ytafeakcajhhkoaa.Prt
open Go.RowKit Go.Proofs.YtafeakcajhhkoaaW.PrintWords Go.Proofs.YtafeakcajhhkoaaW.PrintLast Go.Proofs.YtafeakcajhhkoaaW.PrintMore Go.Proofs.Ytafeakcajhhkoaa.Num Go.Proofs.Ytafeakcajhhkoaa.Nam
set_option linter.unusedVariables false
set_option linter.unusedSimpArgs false

end Go.Proofs.Ytafeakcajhhkoaa.Prt
namespace Go.Proofs.Ytafeakcajhhkoaa.Prt
open Go.RowKit Go.Proofs.YtafeakcajhhkoaaW.PrintWords Go.Proofs.YtafeakcajhhkoaaW.PrintLast Go.Proofs.YtafeakcajhhkoaaW.PrintMore
attribute [local go_sem] max2_int min2_int max_two min_two max_three min_three max_four min_four   -- for this text's walks alone
set_option linter.unusedVariables false
set_option linter.unusedSimpArgs false

def registrarlaw10_shown.f  : Option (Bool) := (batch_PutG.f 5 (([(⟨(⟨#[115]⟩ : ByteArray), (⟨#[116]⟩ : ByteArray), ([] : List ByteArray), ([] : List (S50))⟩ : S40)] : List (S40)))).bind fun bt152 => (if (strOfNums bt152.1).toList = ([10, 2, 2, 115, 2, 116, 0, 0] : List UInt8) then (some (bt152.2 == 0)) else (some false))
set_option maxHeartbeats 8000000 in
set_option maxRecDepth 100000 in
theorem registrarlaw10_shown.calls  (r : Bool) (w : World) (h : registrarlaw10_shown.f  = some r) :
    Calls Try.prog 9 #[] w fun e w' => e = .returned (.bool r) ∧ Below w.heap.size w w' := by
  have hu40 := Try.underlying40
  have hu24 := Try.underlying24
  have HB := Aside0.mk (Below.refl w.heap.size w)
  have H : ((batch_PutG.f 5 (([(⟨(⟨#[115]⟩ : ByteArray), (⟨#[116]⟩ : ByteArray), ([] : List ByteArray), ([] : List (S50))⟩ : S40)] : List (S40)))).bind fun bt152 => (if (strOfNums bt152.1).toList = ([10, 2, 2, 115, 2, 116, 0, 0] : List UInt8) then (some (bt152.2 == 0)) else (some false))) = some r := h
  clear h
  obtain ⟨y149, hy149⟩ : ∃ y_ : List (S40), y_ = (([(⟨(⟨#[115]⟩ : ByteArray), (⟨#[116]⟩ : ByteArray), ([] : List ByteArray), ([] : List (S50))⟩ : S40)] : List (S40))) := ⟨_, rfl⟩
  replace H : ((batch_PutG.f 5 y149).bind fun bt152 => (if (strOfNums bt152.1).toList = ([10, 2, 2, 115, 2, 116, 0, 0] : List UInt8) then (some (bt152.2 == 0)) else (some false))) = some r := by first | (rw [hy149]; with_reducible exact H) | (have H2_ := (Option.bind_some _ _).symm.trans H; rw [hy149]; with_reducible exact H2_) | (have H2_ := (Option.bind_some _ _).symm.trans H; with_reducible exact H2_) | with_reducible exact H | (rw [hy149]; exact H) | exact H
  have Ny149 := Aside0.mk hy149
  clear hy149
  replace H := Option.bind_eq_some_iff.mp H
  obtain ⟨⟨t152, t155⟩, A10, H⟩ := H
  replace H : (if (strOfNums t152).toList = ([10, 2, 2, 115, 2, 116, 0, 0] : List UInt8) then (some (t155 == 0)) else (some false)) = some r := H
  have A1 := Aside0.mk A10
  clear A10
  by_cases c2 : (strOfNums t152).toList = ([10, 2, 2, 115, 2, 116, 0, 0] : List UInt8)
  · rw [if_pos c2] at H
    have c2b0 : ((strOfNums t152).toList == ([10, 2, 2, 115, 2, 116, 0, 0] : List UInt8)) = true := beq_iff_eq.mpr c2
    have c2b1 : ((strOfNums t152).toList != ([10, 2, 2, 115, 2, 116, 0, 0] : List UInt8)) = false := bne_eq_false_iff_eq.mpr c2
    clear c2
    obtain rfl := Option.some.inj H
    go_enter Try.func9, Try.ntmps9
    go_wp2_with (first | ((with_reducible refine gate_dst (N := 5) rfl ?_); refine Kd.S_lit k40 _ 40 ?hg (N := 5) ?hd (xs := ([(⟨(⟨#[115]⟩ : ByteArray), (⟨#[116]⟩ : ByteArray), ([] : List ByteArray), ([] : List (S50))⟩ : S40)] : List (S40))) (inner := [.string (⟨#[115]⟩ : ByteArray), .string (⟨#[116]⟩ : ByteArray), .slice none 0 0, .slice none 0 0]) (ok := fun _ => True) (okp := fun _ => True) ?hr ?hp (fun _ hk => hk) trivial (Below.refl _ _) (Nat.le_refl _) (by simp) ?_; (case hd => rfl); (case hg => rfl); (case hr => first | (go_simp; done) | (go_simp; rfl)); (case hp => exact (Reps.c4 (show Kd.M k40 _ _ _ (⟨(⟨#[115]⟩ : ByteArray), (⟨#[116]⟩ : ByteArray), ([] : List ByteArray), ([] : List (S50))⟩ : S40) [.string (⟨#[115]⟩ : ByteArray), .string (⟨#[116]⟩ : ByteArray), .slice none 0 0, .slice none 0 0] from (k40_mkM _ _ _ (⟨(⟨#[115]⟩ : ByteArray), (⟨#[116]⟩ : ByteArray), ([] : List ByteArray), ([] : List (S50))⟩ : S40) (Kd.R_nil _ _ _ _ _) (Kd.R_nil _ _ _ _ _))) (Reps.none _ _))); intro v150 w3 ho4 hb hg_ hnew_; clear hg_ hnew_; (first | rw [← Ny149.out] at ho4 | (simp only [Int.reduceToNat] at ho4; rw [← Ny149.out] at ho4)); have n0_ := Aside0.mk (Kd.S_lower ho4 (below_size (by repeat (first | (with_reducible first | exact HB.out | apply below_alloc | apply pw_below_drewN | apply below_drew1) | exact HB.out)))); have n1_ := Aside0.mk (below_step (by repeat (first | (with_reducible first | exact HB.out | apply below_alloc | apply pw_below_drewN | apply below_drew1) | exact HB.out)) hb); clear HB; have HO151 := n0_; have HB := n1_; clear n0_ n1_; clear hb ho4; obtain ⟨Ao5, co5, eo5⟩ := Kd.S_slice HO151.out; subst eo5) | ((with_reducible refine gate_callee (f := 11) rfl ?_); refine goesL_ (some 7) rfl rfl Try.func11 (by kernel_rfl) rfl #[.agg #[.int .i64 5, .slice Ao5 y149.length co5]] rfl (by (try simp only [List.map_toArray, List.map_cons, List.map_nil]); first | done | rfl | (simp only [List.length_drop, List.length_take]; rfl)) ?_; (with_reducible refine (batch_PutG.calls 5 _ _ y149 t152 t155 _ ?side1 ?side2 A1.out).mono ?_); (case side1 => repeat (first | exact (Kd.S_reads' HO151.out).2.2 | (with_reducible refine Kd.C_alloc ?_ _) | (with_reducible refine Kd.C_drewN ?_ _) | (with_reducible refine Kd.C_drew ?_))); (case side2 => exact (Kd.S_reads' HO151.out).2.1); rintro e w6 ⟨v153, rfl, ho0, hb⟩; refine ⟨_, rfl, ?_⟩; have n0_ := Aside0.mk (Kd.S_below (by (with_reducible repeat (first | apply Kd.S_alloc | apply Kd.S_drewN | apply Kd.S_drew)); exact HO151.out) hb); have n1_ := Aside0.mk (Kd.R_lower ho0 (below_size (by repeat (first | (with_reducible first | exact HB.out | apply below_alloc | apply pw_below_drewN | apply below_drew1) | exact HB.out)))); have n2_ := Aside0.mk (below_step (by repeat (first | (with_reducible first | exact HB.out | apply below_alloc | apply pw_below_drewN | apply below_drew1) | exact HB.out)) hb); clear HO151; clear HB; have HO151 := n0_; have HO154 := n1_; have HB := n2_; clear n0_ n1_ n2_; (try clear hb); (try clear hb2); (try clear hk); (try clear hi); (try clear ho0); have hcv7 := own_string (P := Try.prog) Try.underlying27 Try.underlying5 Try.underlying9 (Kd.own_of_R HO154.out)))
    go_ret
    exact ⟨by first | rfl | (simp [errW_none, errW_some] <;> rfl) | (simp [*, errW_none, errW_some] <;> rfl), by repeat (first | (with_reducible first | exact HB.out | apply below_alloc | apply pw_below_drewN | apply below_drew1) | exact HB.out)⟩
  · rw [if_neg c2] at H
    have c2b0 : ((strOfNums t152).toList == ([10, 2, 2, 115, 2, 116, 0, 0] : List UInt8)) = false := beq_eq_false_iff_ne.mpr c2
    have c2b1 : ((strOfNums t152).toList != ([10, 2, 2, 115, 2, 116, 0, 0] : List UInt8)) = true := bne_iff_ne.mpr c2
    obtain rfl := Option.some.inj H
    go_enter Try.func9, Try.ntmps9
    go_wp2_with (first | ((with_reducible refine gate_dst (N := 5) rfl ?_); refine Kd.S_lit k40 _ 40 ?hg (N := 5) ?hd (xs := ([(⟨(⟨#[115]⟩ : ByteArray), (⟨#[116]⟩ : ByteArray), ([] : List ByteArray), ([] : List (S50))⟩ : S40)] : List (S40))) (inner := [.string (⟨#[115]⟩ : ByteArray), .string (⟨#[116]⟩ : ByteArray), .slice none 0 0, .slice none 0 0]) (ok := fun _ => True) (okp := fun _ => True) ?hr ?hp (fun _ hk => hk) trivial (Below.refl _ _) (Nat.le_refl _) (by simp) ?_; (case hd => rfl); (case hg => rfl); (case hr => first | (go_simp; done) | (go_simp; rfl)); (case hp => exact (Reps.c4 (show Kd.M k40 _ _ _ (⟨(⟨#[115]⟩ : ByteArray), (⟨#[116]⟩ : ByteArray), ([] : List ByteArray), ([] : List (S50))⟩ : S40) [.string (⟨#[115]⟩ : ByteArray), .string (⟨#[116]⟩ : ByteArray), .slice none 0 0, .slice none 0 0] from (k40_mkM _ _ _ (⟨(⟨#[115]⟩ : ByteArray), (⟨#[116]⟩ : ByteArray), ([] : List ByteArray), ([] : List (S50))⟩ : S40) (Kd.R_nil _ _ _ _ _) (Kd.R_nil _ _ _ _ _))) (Reps.none _ _))); intro v150 w8 ho9 hb hg_ hnew_; clear hg_ hnew_; (first | rw [← Ny149.out] at ho9 | (simp only [Int.reduceToNat] at ho9; rw [← Ny149.out] at ho9)); have n0_ := Aside0.mk (Kd.S_lower ho9 (below_size (by repeat (first | (with_reducible first | exact HB.out | apply below_alloc | apply pw_below_drewN | apply below_drew1) | exact HB.out)))); have n1_ := Aside0.mk (below_step (by repeat (first | (with_reducible first | exact HB.out | apply below_alloc | apply pw_below_drewN | apply below_drew1) | exact HB.out)) hb); clear HB; have HO151 := n0_; have HB := n1_; clear n0_ n1_; clear hb ho9; obtain ⟨Ao10, co10, eo10⟩ := Kd.S_slice HO151.out; subst eo10) | ((with_reducible refine gate_callee (f := 11) rfl ?_); refine goesL_ (some 7) rfl rfl Try.func11 (by kernel_rfl) rfl #[.agg #[.int .i64 5, .slice Ao10 y149.length co10]] rfl (by (try simp only [List.map_toArray, List.map_cons, List.map_nil]); first | done | rfl | (simp only [List.length_drop, List.length_take]; rfl)) ?_; (with_reducible refine (batch_PutG.calls 5 _ _ y149 t152 t155 _ ?side1 ?side2 A1.out).mono ?_); (case side1 => repeat (first | exact (Kd.S_reads' HO151.out).2.2 | (with_reducible refine Kd.C_alloc ?_ _) | (with_reducible refine Kd.C_drewN ?_ _) | (with_reducible refine Kd.C_drew ?_))); (case side2 => exact (Kd.S_reads' HO151.out).2.1); rintro e w11 ⟨v153, rfl, ho0, hb⟩; refine ⟨_, rfl, ?_⟩; have n0_ := Aside0.mk (Kd.S_below (by (with_reducible repeat (first | apply Kd.S_alloc | apply Kd.S_drewN | apply Kd.S_drew)); exact HO151.out) hb); have n1_ := Aside0.mk (Kd.R_lower ho0 (below_size (by repeat (first | (with_reducible first | exact HB.out | apply below_alloc | apply pw_below_drewN | apply below_drew1) | exact HB.out)))); have n2_ := Aside0.mk (below_step (by repeat (first | (with_reducible first | exact HB.out | apply below_alloc | apply pw_below_drewN | apply below_drew1) | exact HB.out)) hb); clear HO151; clear HB; have HO151 := n0_; have HO154 := n1_; have HB := n2_; clear n0_ n1_ n2_; (try clear hb); (try clear hb2); (try clear hk); (try clear hi); (try clear ho0); have hcv12 := own_string (P := Try.prog) Try.underlying27 Try.underlying5 Try.underlying9 (Kd.own_of_R HO154.out)))
    go_ret
    exact ⟨by first | rfl | (simp [errW_none, errW_some] <;> rfl) | (simp [*, errW_none, errW_some] <;> rfl), by repeat (first | (with_reducible first | exact HB.out | apply below_alloc | apply pw_below_drewN | apply below_drew1) | exact HB.out)⟩

end Go.Proofs.Ytafeakcajhhkoaa.Prt

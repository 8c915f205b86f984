/- Functions of the program, told as plain functions, with their walks: written by a program of this claim's out of the translation. Events as bytes, and rows of events that are the same: in closed form. Events: the document's example; what few answers; events as bytes are told apart. -/
import Derived.Test.YtmnidohgnnpeiaaYEvcodePuts1
import Derived.Test.YtmnidohgnnpeiaaYEvcodePuts2
namespace Go.Proofs.Ytmnidohgnnpeiaa.Prt
open Go.RowKit Go.Proofs.YtmnidohgnnpeiaaW.PrintWords Go.Proofs.YtmnidohgnnpeiaaW.PrintLast Go.Proofs.YtmnidohgnnpeiaaW.PrintMore
attribute [local go_sem] max2_int min2_int max_two min_two max_three min_three max_four min_four   -- for this text's walks alone
set_option linter.unusedVariables false
set_option linter.unusedSimpArgs false

/-! ### evcode_Put: function 10 -/
mutual
def evcode_Put.l0 : Nat → List Int → List ByteArray → Int → Int → ByteArray → ByteArray → List ByteArray → List (S35) → Option (List Int × Int)
  | 0, _, _, _, _, _, _, _, _ => none
  | k + 1, x7, x30, x31, x32, x110000, x110001, x110002, x110003 => if x32 < x31 then (if 0 ≤ x32 then (if x32 < (x30.length : Int) then ((num_PutText.f x7 (rdOf ByteArray.empty x30 x32)).bind fun t121 => (evcode_Put.l0 k t121 x30 x31 (wrap64 (x32 + 1)) x110000 x110001 x110002 x110003)) else (none)) else (none)) else ((num_Put.f x7 (x110003.length : Int)).bind fun t124 => (evcode_Put.l1 k t124 x110003 (x110003.length : Int) 0))
def evcode_Put.l1 : Nat → List Int → List (S35) → Int → Int → Option (List Int × Int)
  | 0, _, _, _, _ => none
  | k + 1, x7, x46, x47, x48 => if x48 < x47 then (if 0 ≤ x48 then (if x48 < (x46.length : Int) then ((num_PutText.f x7 ((rd_T35 x46 x48).f0)).bind fun t129 => ((num_Put.f t129 ((rd_T35 x46 x48).f1)).bind fun t132 => (evcode_Put.l1 k t132 x46 x47 (wrap64 (x48 + 1))))) else (none)) else (none)) else (some (x7, 0))
end
def evcode_Put.f (k : Nat) (l0 : List Int) (a1_0 : ByteArray) (a1_1 : ByteArray) (l1_2 : List ByteArray) (l1_3 : List (S35)) : Option (List Int × Int) := (event_May.f a1_0 a1_1 l1_2 l1_3).bind fun t110 => (if t110 = 0 then ((num_PutText.f l0 a1_0).bind fun t111 => ((num_PutText.f t111 a1_1).bind fun t114 => ((num_Put.f t114 (l1_2.length : Int)).bind fun t117 => (evcode_Put.l0 k t117 l1_2 (l1_2.length : Int) 0 a1_0 a1_1 l1_2 l1_3)))) else (some (([] : List Int), t110)))
theorem evcode_Put.mono_l : ∀ k, (∀ y0 y1 y2 y3 y4 y5 y6 y7, LeO (evcode_Put.l0 k y0 y1 y2 y3 y4 y5 y6 y7) (evcode_Put.l0 (k + 1) y0 y1 y2 y3 y4 y5 y6 y7)) ∧ (∀ y0 y1 y2 y3, LeO (evcode_Put.l1 k y0 y1 y2 y3) (evcode_Put.l1 (k + 1) y0 y1 y2 y3))
  | 0 => ⟨fun _ _ _ _ _ _ _ _ r h => by simp [evcode_Put.l0] at h, fun _ _ _ _ r h => by simp [evcode_Put.l1] at h⟩
  | k + 1 => by
    obtain ⟨ih0, ih1⟩ := evcode_Put.mono_l k
    refine ⟨?_, ?_⟩
    · intro y0 y1 y2 y3 y4 y5 y6 y7
      unfold evcode_Put.l0
      repeat' first
      | (with_reducible exact ih0 _ _ _ _ _ _ _ _)
      | (with_reducible exact ih1 _ _ _ _)
      | (with_reducible exact LeO.refl _)
      | (with_reducible exact LeO.none _)
      | (with_reducible refine LeO.ite ?_ ?_)
      | (with_reducible refine LeO.bind ?_ (fun _ => ?_))
      | exact ih0 _ _ _ _ _ _ _ _
      | exact ih1 _ _ _ _
      | exact LeO.none _
      | refine LeO.ite ?_ ?_
      | refine LeO.bind ?_ (fun _ => ?_)
    · intro y0 y1 y2 y3
      unfold evcode_Put.l1
      repeat' first
      | (with_reducible exact ih0 _ _ _ _ _ _ _ _)
      | (with_reducible exact ih1 _ _ _ _)
      | (with_reducible exact LeO.refl _)
      | (with_reducible exact LeO.none _)
      | (with_reducible refine LeO.ite ?_ ?_)
      | (with_reducible refine LeO.bind ?_ (fun _ => ?_))
      | exact ih0 _ _ _ _ _ _ _ _
      | exact ih1 _ _ _ _
      | exact LeO.none _
      | refine LeO.ite ?_ ?_
      | refine LeO.bind ?_ (fun _ => ?_)
theorem evcode_Put.mono : ∀ a0 a1 a2 a3 a4 k, LeO (evcode_Put.f k a0 a1 a2 a3 a4) (evcode_Put.f (k + 1) a0 a1 a2 a3 a4) := by
  intro a0 a1 a2 a3 a4 k
  obtain ⟨ih0, ih1⟩ := evcode_Put.mono_l k
  unfold evcode_Put.f
  repeat' first
      | (with_reducible exact ih0 _ _ _ _ _ _ _ _)
      | (with_reducible exact ih1 _ _ _ _)
      | (with_reducible exact LeO.refl _)
      | (with_reducible exact LeO.none _)
      | (with_reducible refine LeO.ite ?_ ?_)
      | (with_reducible refine LeO.bind ?_ (fun _ => ?_))
      | exact ih0 _ _ _ _ _ _ _ _
      | exact ih1 _ _ _ _
      | exact LeO.none _
      | refine LeO.ite ?_ ?_
      | refine LeO.bind ?_ (fun _ => ?_)
def evcode_Put.T4 : Bool × List (List Nat × List Nat) := (true, [([], []), ([], []), ([1], [1]), ([0, 2], [0, 2]), ([], []), ([4], [4]), ([3, 5, 3], [3, 5]), ([6, 6, 0, 1, 2, 3, 4, 5, 6], [6])])
def evcode_Put.B4 : List Nat := [0, 0, 2, 7, 0, 16, 63, 127]
theorem evcode_Put.tab4 : rtab .any (opsOf Try.f10 4) = evcode_Put.T4 := by kernel_rfl
theorem evcode_Put.bits4 : waitsOk evcode_Put.T4.2 evcode_Put.B4 = true := by kernel_rfl
def evcode_Put.T15 : Bool × List (List Nat × List Nat) := (true, [([], []), ([], []), ([1], [1]), ([0, 2], [0, 2]), ([], []), ([4], [4]), ([3, 5, 3], [3, 5]), ([6, 6, 0, 1, 2, 3, 4, 5, 6], [0, 6])])
def evcode_Put.B15 : List Nat := [0, 0, 2, 7, 0, 16, 63, 127]
theorem evcode_Put.tab15 : rtab .any (opsOf Try.f10 15) = evcode_Put.T15 := by kernel_rfl
theorem evcode_Put.bits15 : waitsOk evcode_Put.T15.2 evcode_Put.B15 = true := by kernel_rfl
set_option maxHeartbeats 8000000 in
set_option maxRecDepth 100000 in
theorem evcode_Put.calls (k : Nat) (A0 : Option Addr) (c0 : Nat) (l0 : List Int) (a1_0 : ByteArray) (a1_1 : ByteArray) (A1_2 : Option Addr) (c1_2 : Nat) (l1_2 : List ByteArray) (A1_3 : Option Addr) (c1_3 : Nat) (l1_3 : List (S35)) (r1 : List Int) (r2 : Int) (w : World) (hr0 : Kd.C (Kd.int .u8) w A0 l0.length l0) (hc0 : l0.length ≤ c0) (hr1_2 : Kd.C Kd.string w A1_2 l1_2.length l1_2) (hc1_2 : l1_2.length ≤ c1_2) (hr1_3 : Kd.C k35 w A1_3 l1_3.length l1_3) (hc1_3 : l1_3.length ≤ c1_3) (h : evcode_Put.f k l0 a1_0 a1_1 l1_2 l1_3 = some (r1, r2)) :
    Calls Try.prog 10 #[.slice A0 l0.length c0, .agg #[.string a1_0, .string a1_1, .slice A1_2 l1_2.length c1_2, .slice A1_3 l1_3.length c1_3]] w fun e w' => ∃ v0_ : Value, e = .returned (.tuple #[v0_, .int .i64 r2]) ∧ Kd.R (Kd.int .u8) 5 w' w.heap.size (fun _ => True) v0_ r1 ∧ Below w.heap.size w w' := by
  have hu26 := Try.underlying26
  have hu35 := Try.underlying35
  have HR0 := Aside0.mk hr0
  have HC0 := Aside0.mk hc0
  clear hr0 hc0
  have HR1_2 := Aside0.mk hr1_2
  have HC1_2 := Aside0.mk hc1_2
  clear hr1_2 hc1_2
  have HR1_3 := Aside0.mk hr1_3
  have HC1_3 := Aside0.mk hc1_3
  clear hr1_3 hc1_3
  have HB := Aside0.mk (Below.refl w.heap.size w)
  have H : ((event_May.f a1_0 a1_1 l1_2 l1_3).bind fun t110 => (if t110 = 0 then ((num_PutText.f l0 a1_0).bind fun t111 => ((num_PutText.f t111 a1_1).bind fun t114 => ((num_Put.f t114 (l1_2.length : Int)).bind fun t117 => (evcode_Put.l0 k t117 l1_2 (l1_2.length : Int) 0 a1_0 a1_1 l1_2 l1_3)))) else (some (([] : List Int), t110)))) = some (r1, r2) := h
  clear h
  replace H := Option.bind_eq_some_iff.mp H
  obtain ⟨t110, A30, H⟩ := H
  replace H : (if t110 = 0 then ((num_PutText.f l0 a1_0).bind fun t111 => ((num_PutText.f t111 a1_1).bind fun t114 => ((num_Put.f t114 (l1_2.length : Int)).bind fun t117 => (evcode_Put.l0 k t117 l1_2 (l1_2.length : Int) 0 a1_0 a1_1 l1_2 l1_3)))) else (some (([] : List Int), t110))) = some (r1, r2) := H
  have A3 := Aside0.mk A30
  clear A30
  by_cases c4 : t110 = 0
  · rw [if_pos c4] at H
    have c4b0 : (t110 == 0) = true := beq_iff_eq.mpr c4
    have c4b1 : (t110 != 0) = false := bne_eq_false_iff_eq.mpr c4
    clear c4
    replace H := Option.bind_eq_some_iff.mp H
    obtain ⟨t111, A50, H⟩ := H
    replace H : ((num_PutText.f t111 a1_1).bind fun t114 => ((num_Put.f t114 (l1_2.length : Int)).bind fun t117 => (evcode_Put.l0 k t117 l1_2 (l1_2.length : Int) 0 a1_0 a1_1 l1_2 l1_3))) = some (r1, r2) := H
    have A5 := Aside0.mk A50
    clear A50
    replace H := Option.bind_eq_some_iff.mp H
    obtain ⟨t114, A60, H⟩ := H
    replace H : ((num_Put.f t114 (l1_2.length : Int)).bind fun t117 => (evcode_Put.l0 k t117 l1_2 (l1_2.length : Int) 0 a1_0 a1_1 l1_2 l1_3)) = some (r1, r2) := H
    have A6 := Aside0.mk A60
    clear A60
    replace H := Option.bind_eq_some_iff.mp H
    obtain ⟨t117, A70, H⟩ := H
    replace H : (evcode_Put.l0 k t117 l1_2 (l1_2.length : Int) 0 a1_0 a1_1 l1_2 l1_3) = some (r1, r2) := H
    have A7 := Aside0.mk A70
    clear A70
    have H' := Aside0.mk H
    clear H
    go_enter Try.func10, Try.ntmps10
    try go_wp2_with (first | ((with_reducible refine gate_dst (N := 3) rfl ?_); refine box_event ?hg (N := 3) ?hd (cs := #[.string a1_0, .string a1_1, .slice A1_2 l1_2.length c1_2, .slice A1_3 l1_3.length c1_3]) (t := 26) ?hr ?_; (case hd => rfl); (case hg => rfl); (case hr => first | (go_simp; done) | (go_simp; rfl)); intro gb109 hg w8 hbox hb; have n0_ := Aside0.mk (below_step (by repeat (first | (with_reducible first | exact HB.out | apply below_alloc | apply pw_below_drewN | apply below_drew1) | exact HB.out)) hb); have n1_ := Aside0.mk (hbox); have n2_ := Aside0.mk ((by rw [hg]; exact (below_size (by repeat (first | (with_reducible first | exact HB.out | apply below_alloc | apply pw_below_drewN | apply below_drew1) | exact HB.out))) : w.heap.size ≤ gb109)); have n3_ := Aside0.mk ((by rw [hg]; exact (below_size (by repeat (first | (with_reducible first | exact HB.out | apply below_alloc | apply pw_below_drewN | apply below_drew1) | exact HB.out))) : w.heap.size ≤ gb109)); clear HB; have HB := n0_; have BK109 := n1_; have GW109 := n2_; have GE109 := n3_; clear n0_ n1_ n2_ n3_; clear hb hbox hg; have hcz9_0 : w8.cell? ⟨gb109, 0, none⟩ = some (.string a1_0) := (blk_cell BK109.out 0).trans rfl; have hcz9_1 : w8.cell? ⟨gb109, 1, none⟩ = some (.string a1_1) := (blk_cell BK109.out 1).trans rfl; have hcz9_2 : w8.cell? ⟨gb109, 2, none⟩ = some (.slice A1_2 l1_2.length c1_2) := (blk_cell BK109.out 2).trans rfl; have hcz9_3 : w8.cell? ⟨gb109, 3, none⟩ = some (.slice A1_3 l1_3.length c1_3) := (blk_cell BK109.out 3).trans rfl; have hfz9_0 := blk_frozen BK109.out 0; have hfz9_1 := blk_frozen BK109.out 1; have hfz9_2 := blk_frozen BK109.out 2; have hfz9_3 := blk_frozen BK109.out 3) | ((with_reducible refine gate_callee (f := 22) rfl ?_); refine goesL_ (some 13) rfl rfl Try.func22 (by kernel_rfl) rfl #[.agg #[.string a1_0, .string a1_1, .slice A1_2 l1_2.length c1_2, .slice A1_3 l1_3.length c1_3]] rfl (by (try simp only [List.map_toArray, List.map_cons, List.map_nil]); first | done | rfl | (simp only [List.length_drop, List.length_take]; rfl)) ?_; (with_reducible refine (event_May.calls a1_0 a1_1 _ _ l1_2 _ _ l1_3 t110 _ ?side1 ?side2 ?side3 ?side4 A3.out).mono ?_); (case side1 => repeat (first | exact (Kd.C_below HR1_2.out HB.out) | (with_reducible refine Kd.C_alloc ?_ _) | (with_reducible refine Kd.C_drewN ?_ _) | (with_reducible refine Kd.C_drew ?_))); (case side2 => exact HC1_2.out); (case side3 => repeat (first | exact (Kd.C_below HR1_3.out HB.out) | (with_reducible refine Kd.C_alloc ?_ _) | (with_reducible refine Kd.C_drewN ?_ _) | (with_reducible refine Kd.C_drew ?_))); (case side4 => exact HC1_3.out); rintro e w10 ⟨rfl, hb⟩; refine ⟨_, rfl, ?_⟩; have n0_ := Aside0.mk (blk_below (g := gb109) (o := .cells #[.string a1_0, .string a1_1, .slice A1_2 l1_2.length c1_2, .slice A1_3 l1_3.length c1_3] 26 (0, 0)) (by (with_reducible repeat (first | refine blk_drewN ?_ _ | refine blk_drew ?_ | refine blk_alloc ?_ _)); exact BK109.out) hb); have n1_ := Aside0.mk (below_step (by repeat (first | (with_reducible first | exact HB.out | apply below_alloc | apply pw_below_drewN | apply below_drew1 | refine below_set ?_ GE109.out) | exact HB.out)) hb); clear BK109; clear HB; have BK109 := n0_; have HB := n1_; clear n0_ n1_; (try clear hb); (try clear hb2); (try clear hk); (try clear hi)))
    have n0_ := Aside0.mk (blk_drew BK109.out)
    have n1_ := Aside0.mk (below_drew1 HB.out)
    clear BK109
    clear HB
    have BK109 := n0_
    have HB := n1_
    clear n0_ n1_
    refine start_ (n := 8) (S := fun w' => w'.cell? ⟨gb109, 0, none⟩ = some (.string a1_0) ∧ w'.cell? ⟨gb109, 1, none⟩ = some (.string a1_1) ∧ w'.cell? ⟨gb109, 2, none⟩ = some (.slice A1_2 l1_2.length c1_2) ∧ w'.cell? ⟨gb109, 3, none⟩ = some (.slice A1_3 l1_3.length c1_3)) (ds := []) #[false, false, false, false, false, false, false, false] (by kernel_rfl) rfl rfl ⟨(blk_cell BK109.out 0).trans rfl, (blk_cell BK109.out 1).trans rfl, (blk_cell BK109.out 2).trans rfl, (blk_cell BK109.out 3).trans rfl⟩ (fun hHeld => ?_); refine with_tabW evcode_Put.tab4 evcode_Put.bits4 (fun HT_ HW_ => ?_)
    generalize w10.drew = w11 at BK109 HB hHeld ⊢
    refine pure_ (i := 0) (N := some 17) (v := ?_) (a' := ?_) #[true, false, false, false, false, false, false, false] rfl rfl (any_of HT_.out (by kernel_rfl)) (fun _ _ _ h => h) (Or.inl ⟨by rfl, ?_⟩) ?_ ?_
    rotate_left
    · intro w'
      go_simp
      with_reducible rfl
    rotate_left
    · simp only [Act.put, List.setIfInBounds_toArray, List.set_cons_zero, List.set_cons_succ, i64_w, i32_w]
      rfl
    refine pure_ (i := 1) (N := some 18) (v := ?_) (a' := ?_) #[true, true, false, false, false, false, false, false] rfl rfl (any_of HT_.out (by kernel_rfl)) (fun _ _ _ h => h) (Or.inl ⟨by rfl, ?_⟩) ?_ ?_
    rotate_left
    · intro w'
      go_simp
      with_reducible rfl
    rotate_left
    · simp only [Act.put, List.setIfInBounds_toArray, List.set_cons_zero, List.set_cons_succ, i64_w, i32_w]
      rfl
    refine pure_ (i := 4) (N := some 21) (v := ?_) (a' := ?_) #[true, true, false, false, true, false, false, false] rfl rfl (any_of HT_.out (by kernel_rfl)) (fun _ _ _ h => h) (Or.inl ⟨by rfl, ?_⟩) ?_ ?_
    rotate_left
    · intro w'
      go_simp
      with_reducible rfl
    rotate_left
    · simp only [Act.put, List.setIfInBounds_toArray, List.set_cons_zero, List.set_cons_succ, i64_w, i32_w]
      rfl
    refine take_ (i := 2) (N := some 19) (v := ?_) (a' := ?_) #[true, true, true, false, true, false, false, false] rfl rfl (take_ofW HT_.out HW_.out (by kernel_rfl)) (fun _ _ _ h => h) (Or.inl ⟨by rfl, ?_⟩) hHeld ?_ ?_
    rotate_left
    · rintro w' ⟨s0, s1, s2, s3⟩
      go_simp
      with_reducible rfl
    rotate_left
    · simp only [Act.put, List.setIfInBounds_toArray, List.set_cons_zero, List.set_cons_succ, i64_w, i32_w]
      rfl
    refine take_ (i := 5) (N := some 22) (v := ?_) (a' := ?_) #[true, true, true, false, true, true, false, false] rfl rfl (take_ofW HT_.out HW_.out (by kernel_rfl)) (fun _ _ _ h => h) (Or.inl ⟨by rfl, ?_⟩) hHeld ?_ ?_
    rotate_left
    · rintro w' ⟨s0, s1, s2, s3⟩
      go_simp
      with_reducible rfl
    rotate_left
    · simp only [Act.put, List.setIfInBounds_toArray, List.set_cons_zero, List.set_cons_succ, i64_w, i32_w]
      rfl
    refine one_ (i := 3) (N := some 20) #[true, true, true, true, true, true, false, false] rfl rfl (one_of HT_.out (by kernel_rfl)) (by decide) (fun K hK => ?_)
    refine goes_ Try.func23 (by kernel_rfl) rfl #[.slice A0 l0.length c0, .string a1_0] (by rfl) rfl rfl (by (try simp only [List.map_toArray, List.map_cons, List.map_nil]); first | done | rfl | (simp only [List.length_drop, List.length_take]; rfl)) ?_
    with_reducible refine (num_PutText.calls _ _ l0 a1_0 t111 _ ?side1 ?side2 A5.out).mono ?_
    (case side1 => repeat (first | exact (Kd.C_below HR0.out HB.out) | (with_reducible refine Kd.C_alloc ?_ _) | (with_reducible refine Kd.C_drewN ?_ _) | (with_reducible refine Kd.C_drew ?_)))
    (case side2 => exact HC0.out)
    rintro e w12 ⟨v112, rfl, ho0, hb⟩
    refine ⟨_, rfl, ?_⟩
    have n0_ := Aside0.mk (Kd.R_lower ho0 (below_size (by repeat (first | (with_reducible first | exact HB.out | apply below_alloc | apply pw_below_drewN | apply below_drew1 | refine below_set ?_ GE109.out) | exact HB.out))))
    have n1_ := Aside0.mk (blk_below (g := gb109) (o := .cells #[.string a1_0, .string a1_1, .slice A1_2 l1_2.length c1_2, .slice A1_3 l1_3.length c1_3] 26 (0, 0)) (by (with_reducible repeat (first | refine blk_drewN ?_ _ | refine blk_drew ?_ | refine blk_alloc ?_ _)); exact BK109.out) hb)
    have n2_ := Aside0.mk (below_step (by repeat (first | (with_reducible first | exact HB.out | apply below_alloc | apply pw_below_drewN | apply below_drew1 | refine below_set ?_ GE109.out) | exact HB.out)) hb)
    clear BK109
    clear HB
    have HO113 := n0_
    have BK109 := n1_
    have HB := n2_
    clear n0_ n1_ n2_
    (try clear hb)
    (try clear hb2)
    (try clear hk)
    (try clear hi)
    (try clear ho0)
    obtain ⟨Ao13, co13, eo13⟩ := Kd.R_slice HO113.out
    (first | subst eo13 | (injection eo13 with f1_ f2_ f3_; have f4_ := f1_.symm; have f5_ := f3_.symm; clear f1_ f2_ f3_; subst f4_; subst f5_))
    refine hK.out _ _ ⟨(blk_cell BK109.out 0).trans rfl, (blk_cell BK109.out 1).trans rfl, (blk_cell BK109.out 2).trans rfl, (blk_cell BK109.out 3).trans rfl⟩ (fun hHeld => ?_)
    clear hK K
    refine norm_ (a' := ?_) ?_ ?_
    rotate_left
    · show Act.put _ (some 20) _ = _
      simp only [Act.put, List.setIfInBounds_toArray, List.set_cons_zero, List.set_cons_succ, i64_w, i32_w]
      rfl
    refine one_ (i := 6) (N := some 23) #[true, true, true, true, true, true, true, false] rfl rfl (one_of HT_.out (by kernel_rfl)) (by decide) (fun K hK => ?_)
    refine goes_ Try.func23 (by kernel_rfl) rfl #[.slice Ao13 t111.length co13, .string a1_1] (by rfl) rfl rfl (by (try simp only [List.map_toArray, List.map_cons, List.map_nil]); first | done | rfl | (simp only [List.length_drop, List.length_take]; rfl)) ?_
    with_reducible refine (num_PutText.calls _ _ t111 a1_1 t114 _ ?side1 ?side2 A6.out).mono ?_
    (case side1 => repeat (first | exact (Kd.R_reads' HO113.out).2.2 | (with_reducible refine Kd.C_alloc ?_ _) | (with_reducible refine Kd.C_drewN ?_ _) | (with_reducible refine Kd.C_drew ?_)))
    (case side2 => exact (Kd.R_reads' HO113.out).2.1)
    rintro e w14 ⟨v115, rfl, ho0, hb⟩
    refine ⟨_, rfl, ?_⟩
    have n0_ := Aside0.mk (Kd.R_elder' (by (with_reducible repeat (first | apply Kd.R_alloc | apply Kd.R_drewN | apply Kd.R_drew)); exact HO113.out) (Kd.R_base ho0) hb)
    have n1_ := Aside0.mk (Kd.R_lower (Kd.R_new' ho0 (Kd.R_lt (by (with_reducible repeat (first | apply Kd.R_alloc | apply Kd.R_drewN | apply Kd.R_drew)); exact HO113.out))) (below_size (by repeat (first | (with_reducible first | exact HB.out | apply below_alloc | apply pw_below_drewN | apply below_drew1 | refine below_set ?_ GE109.out) | exact HB.out))))
    have n2_ := Aside0.mk (blk_below (g := gb109) (o := .cells #[.string a1_0, .string a1_1, .slice A1_2 l1_2.length c1_2, .slice A1_3 l1_3.length c1_3] 26 (0, 0)) (by (with_reducible repeat (first | refine blk_drewN ?_ _ | refine blk_drew ?_ | refine blk_alloc ?_ _)); exact BK109.out) hb)
    have n3_ := Aside0.mk (below_step (by repeat (first | (with_reducible first | exact HB.out | apply below_alloc | apply pw_below_drewN | apply below_drew1 | refine below_set ?_ GE109.out) | exact HB.out)) hb)
    clear HO113
    clear BK109
    clear HB
    have HO113 := n0_
    have HO116 := n1_
    have BK109 := n2_
    have HB := n3_
    clear n0_ n1_ n2_ n3_
    (try clear hb)
    (try clear hb2)
    (try clear hk)
    (try clear hi)
    (try clear ho0)
    refine hK.out _ _ ⟨(blk_cell BK109.out 0).trans rfl, (blk_cell BK109.out 1).trans rfl, (blk_cell BK109.out 2).trans rfl, (blk_cell BK109.out 3).trans rfl⟩ (fun hHeld => ?_)
    clear hK K
    refine norm_ (a' := ?_) ?_ ?_
    rotate_left
    · show Act.put _ (some 23) _ = _
      simp only [Act.put, List.setIfInBounds_toArray, List.set_cons_zero, List.set_cons_succ, i64_w, i32_w]
      rfl
    refine pure_ (i := 7) (N := some 7) (v := ?_) (a' := ?_) #[true, true, true, true, true, true, true, true] rfl rfl (any_of HT_.out (by kernel_rfl)) (fun _ _ _ h => h) (Or.inl ⟨by rfl, ?_⟩) ?_ ?_
    rotate_left
    · intro w'
      go_simp
      with_reducible rfl
    rotate_left
    · simp only [Act.put, List.setIfInBounds_toArray, List.set_cons_zero, List.set_cons_succ, i64_w, i32_w]
      rfl
    refine done_ (done_of HT_.out (by kernel_rfl)) ?_
    have hcz15_0 : w14.cell? ⟨gb109, 0, none⟩ = some (.string a1_0) := (blk_cell BK109.out 0).trans rfl
    have hcz15_1 : w14.cell? ⟨gb109, 1, none⟩ = some (.string a1_1) := (blk_cell BK109.out 1).trans rfl
    have hcz15_2 : w14.cell? ⟨gb109, 2, none⟩ = some (.slice A1_2 l1_2.length c1_2) := (blk_cell BK109.out 2).trans rfl
    have hcz15_3 : w14.cell? ⟨gb109, 3, none⟩ = some (.slice A1_3 l1_3.length c1_3) := (blk_cell BK109.out 3).trans rfl
    have hfz15_0 := blk_frozen BK109.out 0
    have hfz15_1 := blk_frozen BK109.out 1
    have hfz15_2 := blk_frozen BK109.out 2
    have hfz15_3 := blk_frozen BK109.out 3
    obtain ⟨Ao16, co16, eo16⟩ := Kd.R_slice HO116.out
    subst eo16
    try go_wp2_with (first | ((with_reducible refine gate_callee (f := 24) rfl ?_); refine goesL_ (some 28) rfl rfl Try.func24 (by kernel_rfl) rfl #[.slice Ao16 t114.length co16, .int .i64 (l1_2.length : Int)] rfl (by (try simp only [List.map_toArray, List.map_cons, List.map_nil]); first | done | rfl | (simp only [List.length_drop, List.length_take]; rfl)) ?_; (with_reducible refine (num_Put.calls _ _ t114 (l1_2.length : Int) t117 _ ?side1 ?side2 A7.out).mono ?_); (case side1 => repeat (first | exact (Kd.R_reads' HO116.out).2.2 | (with_reducible refine Kd.C_alloc ?_ _) | (with_reducible refine Kd.C_drewN ?_ _) | (with_reducible refine Kd.C_drew ?_))); (case side2 => exact (Kd.R_reads' HO116.out).2.1); rintro e w17 ⟨v118, rfl, ho0, hb⟩; refine ⟨_, rfl, ?_⟩; have n0_ := Aside0.mk (Kd.R_elder' (by (with_reducible repeat (first | apply Kd.R_alloc | apply Kd.R_drewN | apply Kd.R_drew)); exact HO113.out) (Kd.R_base ho0) hb); have n1_ := Aside0.mk (Kd.R_elder' (by (with_reducible repeat (first | apply Kd.R_alloc | apply Kd.R_drewN | apply Kd.R_drew)); exact HO116.out) (Kd.R_base ho0) hb); have n2_ := Aside0.mk (Kd.R_lower (Kd.R_new' (Kd.R_new' ho0 (Kd.R_lt (by (with_reducible repeat (first | apply Kd.R_alloc | apply Kd.R_drewN | apply Kd.R_drew)); exact HO113.out))) (Kd.R_lt (by (with_reducible repeat (first | apply Kd.R_alloc | apply Kd.R_drewN | apply Kd.R_drew)); exact HO116.out))) (below_size (by repeat (first | (with_reducible first | exact HB.out | apply below_alloc | apply pw_below_drewN | apply below_drew1 | refine below_set ?_ GE109.out) | exact HB.out)))); have n3_ := Aside0.mk (blk_below (g := gb109) (o := .cells #[.string a1_0, .string a1_1, .slice A1_2 l1_2.length c1_2, .slice A1_3 l1_3.length c1_3] 26 (0, 0)) (by (with_reducible repeat (first | refine blk_drewN ?_ _ | refine blk_drew ?_ | refine blk_alloc ?_ _)); exact BK109.out) hb); have n4_ := Aside0.mk (below_step (by repeat (first | (with_reducible first | exact HB.out | apply below_alloc | apply pw_below_drewN | apply below_drew1 | refine below_set ?_ GE109.out) | exact HB.out)) hb); clear HO113; clear HO116; clear BK109; clear HB; have HO113 := n0_; have HO116 := n1_; have HO119 := n2_; have BK109 := n3_; have HB := n4_; clear n0_ n1_ n2_ n3_ n4_; (try clear hb); (try clear hb2); (try clear hk); (try clear hi); (try clear ho0); have hcz18_0 : w17.cell? ⟨gb109, 0, none⟩ = some (.string a1_0) := (blk_cell BK109.out 0).trans rfl; have hcz18_1 : w17.cell? ⟨gb109, 1, none⟩ = some (.string a1_1) := (blk_cell BK109.out 1).trans rfl; have hcz18_2 : w17.cell? ⟨gb109, 2, none⟩ = some (.slice A1_2 l1_2.length c1_2) := (blk_cell BK109.out 2).trans rfl; have hcz18_3 : w17.cell? ⟨gb109, 3, none⟩ = some (.slice A1_3 l1_3.length c1_3) := (blk_cell BK109.out 3).trans rfl; have hfz18_0 := blk_frozen BK109.out 0; have hfz18_1 := blk_frozen BK109.out 1; have hfz18_2 := blk_frozen BK109.out 2; have hfz18_3 := blk_frozen BK109.out 3))
    go_loopg [7, 32] k (fun kq v7 v32 w' => ∃ (x7_1 : List Int) (x32_1 : Int), v32 = .int .i64 x32_1 ∧ Aside0 (evcode_Put.l0 kq x7_1 l1_2 (l1_2.length : Int) x32_1 a1_0 a1_1 l1_2 l1_3 = some (r1, r2)) ∧ Aside0 (kq ≤ k) ∧ Aside0 (Kd.R (Kd.int .u8) 5 w' w.heap.size (fun _ => True) v7 x7_1) ∧ Aside0 (w'.heap[gb109]? = some (.cells #[.string a1_0, .string a1_1, (.slice A1_2 l1_2.length c1_2), (.slice A1_3 l1_3.length c1_3)] 26 (0, 0))) ∧ Aside0 (Below w.heap.size w w'))
    case atStart => exact ⟨(t117), (0), (by first | rfl | (simp; done) | (simp [*]; done)), H', ⟨Nat.le_refl _⟩, ⟨by (with_reducible repeat (first | apply Kd.R_alloc | apply Kd.R_drewN | apply Kd.R_drew)); exact Kd.R_mono HO119.out (fun _ hk => trivial)⟩, ⟨by (with_reducible repeat (first | refine blk_drewN ?_ _ | refine blk_drew ?_ | refine blk_alloc ?_ _)); exact BK109.out⟩, ⟨by repeat (first | (with_reducible first | exact HB.out | apply below_alloc | apply pw_below_drewN | apply below_drew1 | refine below_set ?_ GE109.out) | exact HB.out)⟩⟩
    case round =>
      clear H'
      try clear c1
      try clear c2
      try clear p2
      try clear c4
      try clear c4b0
      try clear c4b1
      try clear c10
      try clear hcz15_0
      try clear hcz15_1
      try clear hcz15_2
      try clear hcz15_3
      try clear hcz18_0
      try clear hcz18_1
      try clear hcz18_2
      try clear hcz18_3
      try clear hcz9_0
      try clear hcz9_1
      try clear hcz9_2
      try clear hcz9_3
      try clear hfz15_0
      try clear hfz15_1
      try clear hfz15_2
      try clear hfz15_3
      try clear hfz18_0
      try clear hfz18_1
      try clear hfz18_2
      try clear hfz18_3
      try clear hfz9_0
      try clear hfz9_1
      try clear hfz9_2
      try clear hfz9_3
      obtain ⟨x7_1, x32_1, rfl, HA, HK1, HO_7, BK109, HB⟩ := hrel
      cases gk with
      | zero => exact absurd HA.out (by simp [evcode_Put.l0])
      | succ k1 =>
        have H := HA.out
        clear HA
        simp only [evcode_Put.l0] at H
        by_cases c19 : x32_1 < (l1_2.length : Int)
        · rw [if_pos c19] at H
          have c19b0 : decide (x32_1 < (l1_2.length : Int)) = true := decide_eq_true c19
          clear c19
          by_cases c20 : 0 ≤ x32_1
          · rw [if_pos c20] at H
            have c20b0 : decide (0 ≤ x32_1) = true := decide_eq_true c20
            clear c20
            by_cases c21 : x32_1 < (l1_2.length : Int)
            · rw [if_pos c21] at H
              have c21b0 : decide (x32_1 < (l1_2.length : Int)) = true := decide_eq_true c21
              clear c21
              replace H := Option.bind_eq_some_iff.mp H
              obtain ⟨t121, A220, H⟩ := H
              replace H : (evcode_Put.l0 k1 t121 l1_2 (l1_2.length : Int) (wrap64 (x32_1 + 1)) a1_0 a1_1 l1_2 l1_3) = some (r1, r2) := H
              have A22 := Aside0.mk A220
              clear A220
              have H' := Aside0.mk H
              clear H
              have p120 : 0 ≤ (x32_1 : Int) := of_decide_eq_true (by first | (with_reducible assumption) | assumption)
              have q120 : x32_1 < (l1_2.length : Int) := of_decide_eq_true (by first | (with_reducible assumption) | assumption)
              obtain ⟨ad120, e120, hx120_0⟩ := Kd.at_string HR1_2.out x32_1 p120 q120
              cases e120
              replace hx120_0 := (HB.out.cell (World.block_lt_of_cell? w _ hx120_0)).trans hx120_0
              replace p120 := eq_true p120
              replace q120 := eq_true q120
              obtain ⟨Ao23, co23, eo23⟩ := Kd.R_slice HO_7.out
              subst eo23
              go_wp2_with (first | ((with_reducible refine gate_callee (f := 23) rfl ?_); refine goesL_ (some 38) rfl rfl Try.func23 (by kernel_rfl) rfl #[.slice Ao23 x7_1.length co23, .string (rdOf ByteArray.empty l1_2 x32_1)] rfl (by (try simp only [List.map_toArray, List.map_cons, List.map_nil]); first | done | rfl | (simp only [List.length_drop, List.length_take]; rfl)) ?_; (with_reducible refine (num_PutText.calls _ _ x7_1 (rdOf ByteArray.empty l1_2 x32_1) t121 _ ?side1 ?side2 A22.out).mono ?_); (case side1 => repeat (first | exact (Kd.R_reads' HO_7.out).2.2 | (with_reducible refine Kd.C_alloc ?_ _) | (with_reducible refine Kd.C_drewN ?_ _) | (with_reducible refine Kd.C_drew ?_))); (case side2 => exact (Kd.R_reads' HO_7.out).2.1); rintro e w24 ⟨v122, rfl, ho0, hb⟩; refine ⟨_, rfl, ?_⟩; have n0_ := Aside0.mk (Kd.R_elder' (by (with_reducible repeat (first | apply Kd.R_alloc | apply Kd.R_drewN | apply Kd.R_drew)); exact HO_7.out) (Kd.R_base ho0) hb); have n1_ := Aside0.mk (Kd.R_lower (Kd.R_new' ho0 (Kd.R_lt (by (with_reducible repeat (first | apply Kd.R_alloc | apply Kd.R_drewN | apply Kd.R_drew)); exact HO_7.out))) (below_size (by repeat (first | (with_reducible first | exact HB.out | apply below_alloc | apply pw_below_drewN | apply below_drew1 | refine below_set ?_ GE109.out) | exact HB.out)))); have n2_ := Aside0.mk (blk_below (g := gb109) (o := .cells #[.string a1_0, .string a1_1, .slice (some ad120) l1_2.length c1_2, .slice A1_3 l1_3.length c1_3] 26 (0, 0)) (by (with_reducible repeat (first | refine blk_drewN ?_ _ | refine blk_drew ?_ | refine blk_alloc ?_ _)); exact BK109.out) hb); have n3_ := Aside0.mk (below_step (by repeat (first | (with_reducible first | exact HB.out | apply below_alloc | apply pw_below_drewN | apply below_drew1 | refine below_set ?_ GE109.out) | exact HB.out)) hb); clear HO_7; clear BK109; clear HB; have HO_7 := n0_; have HO123 := n1_; have BK109 := n2_; have HB := n3_; clear n0_ n1_ n2_ n3_; (try clear hb); (try clear hb2); (try clear hk); (try clear hi); (try clear ho0)))
              go_roundg k1
              case measure => have := HK1.out; omega
              case rel => exact ⟨(t121), (wrap64 (x32_1 + 1)), (by first | rfl | (simp; done) | (simp [*]; done)), H', ⟨by have := HK1.out; omega⟩, ⟨by (with_reducible repeat (first | apply Kd.R_alloc | apply Kd.R_drewN | apply Kd.R_drew)); exact Kd.R_mono HO123.out (fun _ hk => trivial)⟩, ⟨by (with_reducible repeat (first | refine blk_drewN ?_ _ | refine blk_drew ?_ | refine blk_alloc ?_ _)); exact BK109.out⟩, ⟨by repeat (first | (with_reducible first | exact HB.out | apply below_alloc | apply pw_below_drewN | apply below_drew1 | refine below_set ?_ GE109.out) | exact HB.out)⟩⟩
            · rw [if_neg c21] at H
              exact absurd H (by simp)
          · rw [if_neg c20] at H
            exact absurd H (by simp)
        · rw [if_neg c19] at H
          have c19b0 : decide (x32_1 < (l1_2.length : Int)) = false := decide_eq_false c19
          clear c19
          replace H := Option.bind_eq_some_iff.mp H
          obtain ⟨t124, A250, H⟩ := H
          replace H : (evcode_Put.l1 k1 t124 l1_3 (l1_3.length : Int) 0) = some (r1, r2) := H
          have A25 := Aside0.mk A250
          clear A250
          have H' := Aside0.mk H
          clear H
          have hcz26_0 : wr.cell? ⟨gb109, 0, none⟩ = some (.string a1_0) := (blk_cell BK109.out 0).trans rfl
          have hcz26_1 : wr.cell? ⟨gb109, 1, none⟩ = some (.string a1_1) := (blk_cell BK109.out 1).trans rfl
          have hcz26_2 : wr.cell? ⟨gb109, 2, none⟩ = some (.slice A1_2 l1_2.length c1_2) := (blk_cell BK109.out 2).trans rfl
          have hcz26_3 : wr.cell? ⟨gb109, 3, none⟩ = some (.slice A1_3 l1_3.length c1_3) := (blk_cell BK109.out 3).trans rfl
          have hfz26_0 := blk_frozen BK109.out 0
          have hfz26_1 := blk_frozen BK109.out 1
          have hfz26_2 := blk_frozen BK109.out 2
          have hfz26_3 := blk_frozen BK109.out 3
          obtain ⟨Ao27, co27, eo27⟩ := Kd.R_slice HO_7.out
          subst eo27
          go_wp2_with (first | ((with_reducible refine gate_callee (f := 24) rfl ?_); refine goesL_ (some 44) rfl rfl Try.func24 (by kernel_rfl) rfl #[.slice Ao27 x7_1.length co27, .int .i64 (l1_3.length : Int)] rfl (by (try simp only [List.map_toArray, List.map_cons, List.map_nil]); first | done | rfl | (simp only [List.length_drop, List.length_take]; rfl)) ?_; (with_reducible refine (num_Put.calls _ _ x7_1 (l1_3.length : Int) t124 _ ?side1 ?side2 A25.out).mono ?_); (case side1 => repeat (first | exact (Kd.R_reads' HO_7.out).2.2 | (with_reducible refine Kd.C_alloc ?_ _) | (with_reducible refine Kd.C_drewN ?_ _) | (with_reducible refine Kd.C_drew ?_))); (case side2 => exact (Kd.R_reads' HO_7.out).2.1); rintro e w28 ⟨v125, rfl, ho0, hb⟩; refine ⟨_, rfl, ?_⟩; have n0_ := Aside0.mk (Kd.R_elder' (by (with_reducible repeat (first | apply Kd.R_alloc | apply Kd.R_drewN | apply Kd.R_drew)); exact HO_7.out) (Kd.R_base ho0) hb); have n1_ := Aside0.mk (Kd.R_lower (Kd.R_new' ho0 (Kd.R_lt (by (with_reducible repeat (first | apply Kd.R_alloc | apply Kd.R_drewN | apply Kd.R_drew)); exact HO_7.out))) (below_size (by repeat (first | (with_reducible first | exact HB.out | apply below_alloc | apply pw_below_drewN | apply below_drew1 | refine below_set ?_ GE109.out) | exact HB.out)))); have n2_ := Aside0.mk (blk_below (g := gb109) (o := .cells #[.string a1_0, .string a1_1, .slice A1_2 l1_2.length c1_2, .slice A1_3 l1_3.length c1_3] 26 (0, 0)) (by (with_reducible repeat (first | refine blk_drewN ?_ _ | refine blk_drew ?_ | refine blk_alloc ?_ _)); exact BK109.out) hb); have n3_ := Aside0.mk (below_step (by repeat (first | (with_reducible first | exact HB.out | apply below_alloc | apply pw_below_drewN | apply below_drew1 | refine below_set ?_ GE109.out) | exact HB.out)) hb); clear HO_7; clear BK109; clear HB; have HO_7 := n0_; have HO126 := n1_; have BK109 := n2_; have HB := n3_; clear n0_ n1_ n2_ n3_; (try clear hb); (try clear hb2); (try clear hk); (try clear hi); (try clear ho0); have hcz29_0 : w28.cell? ⟨gb109, 0, none⟩ = some (.string a1_0) := (blk_cell BK109.out 0).trans rfl; have hcz29_1 : w28.cell? ⟨gb109, 1, none⟩ = some (.string a1_1) := (blk_cell BK109.out 1).trans rfl; have hcz29_2 : w28.cell? ⟨gb109, 2, none⟩ = some (.slice A1_2 l1_2.length c1_2) := (blk_cell BK109.out 2).trans rfl; have hcz29_3 : w28.cell? ⟨gb109, 3, none⟩ = some (.slice A1_3 l1_3.length c1_3) := (blk_cell BK109.out 3).trans rfl; have hfz29_0 := blk_frozen BK109.out 0; have hfz29_1 := blk_frozen BK109.out 1; have hfz29_2 := blk_frozen BK109.out 2; have hfz29_3 := blk_frozen BK109.out 3))
          go_loopg [7, 48] k1 (fun kq v7 v48 w' => ∃ (x7_2 : List Int) (x48_2 : Int), v48 = .int .i64 x48_2 ∧ Aside0 (evcode_Put.l1 kq x7_2 l1_3 (l1_3.length : Int) x48_2 = some (r1, r2)) ∧ Aside0 (kq ≤ k1) ∧ Aside0 (Kd.R (Kd.int .u8) 5 w' w.heap.size (fun _ => True) v7 x7_2) ∧ Aside0 (w'.heap[gb109]? = some (.cells #[.string a1_0, .string a1_1, (.slice A1_2 l1_2.length c1_2), (.slice A1_3 l1_3.length c1_3)] 26 (0, 0))) ∧ Aside0 (Below w.heap.size w w'))
          case atStart => exact ⟨(t124), (0), (by first | rfl | (simp; done) | (simp [*]; done)), H', ⟨Nat.le_refl _⟩, ⟨by (with_reducible repeat (first | apply Kd.R_alloc | apply Kd.R_drewN | apply Kd.R_drew)); exact Kd.R_mono HO126.out (fun _ hk => trivial)⟩, ⟨by (with_reducible repeat (first | refine blk_drewN ?_ _ | refine blk_drew ?_ | refine blk_alloc ?_ _)); exact BK109.out⟩, ⟨by repeat (first | (with_reducible first | exact HB.out | apply below_alloc | apply pw_below_drewN | apply below_drew1 | refine below_set ?_ GE109.out) | exact HB.out)⟩⟩
          case round =>
            clear H'
            try clear c1
            try clear p1
            try clear q1
            try clear hx1
            try clear c2
            try clear p2
            try clear c4
            try clear c4b0
            try clear c4b1
            try clear p6
            try clear c10
            try clear p12
            try clear q12
            try clear hx12
            try clear c19
            try clear c19b0
            try clear c20
            try clear c20b0
            try clear c21
            try clear c21b0
            try clear c22
            try clear c23
            try clear c24
            try clear hcz15_0
            try clear hcz15_1
            try clear hcz15_2
            try clear hcz15_3
            try clear hcz18_0
            try clear hcz18_1
            try clear hcz18_2
            try clear hcz18_3
            try clear hcz26_0
            try clear hcz26_1
            try clear hcz26_2
            try clear hcz26_3
            try clear hcz29_0
            try clear hcz29_1
            try clear hcz29_2
            try clear hcz29_3
            try clear hcz9_0
            try clear hcz9_1
            try clear hcz9_2
            try clear hcz9_3
            try clear hfz15_0
            try clear hfz15_1
            try clear hfz15_2
            try clear hfz15_3
            try clear hfz18_0
            try clear hfz18_1
            try clear hfz18_2
            try clear hfz18_3
            try clear hfz26_0
            try clear hfz26_1
            try clear hfz26_2
            try clear hfz26_3
            try clear hfz29_0
            try clear hfz29_1
            try clear hfz29_2
            try clear hfz29_3
            try clear hfz9_0
            try clear hfz9_1
            try clear hfz9_2
            try clear hfz9_3
            try clear hx120_0
            try clear p120
            try clear p2
            try clear q120
            obtain ⟨x7_2, x48_2, rfl, HA, HK2, HO_7, BK109, HB⟩ := hrel
            cases gk with
            | zero => exact absurd HA.out (by simp [evcode_Put.l1])
            | succ k2 =>
              have H := HA.out
              clear HA
              simp only [evcode_Put.l1] at H
              by_cases c30 : x48_2 < (l1_3.length : Int)
              · rw [if_pos c30] at H
                have c30b0 : decide (x48_2 < (l1_3.length : Int)) = true := decide_eq_true c30
                clear c30
                by_cases c31 : 0 ≤ x48_2
                · rw [if_pos c31] at H
                  have c31b0 : decide (0 ≤ x48_2) = true := decide_eq_true c31
                  clear c31
                  by_cases c32 : x48_2 < (l1_3.length : Int)
                  · rw [if_pos c32] at H
                    have c32b0 : decide (x48_2 < (l1_3.length : Int)) = true := decide_eq_true c32
                    clear c32
                    replace H := Option.bind_eq_some_iff.mp H
                    obtain ⟨t129, A330, H⟩ := H
                    replace H : ((num_Put.f t129 ((rd_T35 l1_3 x48_2).f1)).bind fun t132 => (evcode_Put.l1 k2 t132 l1_3 (l1_3.length : Int) (wrap64 (x48_2 + 1)))) = some (r1, r2) := H
                    have A33 := Aside0.mk A330
                    clear A330
                    replace H := Option.bind_eq_some_iff.mp H
                    obtain ⟨t132, A340, H⟩ := H
                    replace H : (evcode_Put.l1 k2 t132 l1_3 (l1_3.length : Int) (wrap64 (x48_2 + 1))) = some (r1, r2) := H
                    have A34 := Aside0.mk A340
                    clear A340
                    have H' := Aside0.mk H
                    clear H
                    have p127 : 0 ≤ (x48_2 : Int) := of_decide_eq_true (by first | (with_reducible assumption) | assumption)
                    have q127 : x48_2 < (l1_3.length : Int) := of_decide_eq_true (by first | (with_reducible assumption) | assumption)
                    obtain ⟨ad127, e127, hx127_0, hx127_1⟩ := at_T35 HR1_3.out x48_2 p127 q127
                    cases e127
                    replace hx127_0 := (HB.out.cell (World.block_lt_of_cell? w _ hx127_0)).trans hx127_0
                    replace hx127_1 := (HB.out.cell (World.block_lt_of_cell? w _ hx127_1)).trans hx127_1
                    replace p127 := eq_true p127
                    replace q127 := eq_true q127
                    try go_wp2_with (first | ((with_reducible refine gate_dst (N := 11) rfl ?_); refine box_event ?hg (N := 11) ?hd (cs := #[.string (⟨#[]⟩ : ByteArray), .int .i64 0]) (t := 35) ?hr ?_; (case hd => rfl); (case hg => rfl); (case hr => first | (go_simp; done) | (go_simp; rfl)); intro gb128 hg w35 hbox hb; have n0_ := Aside0.mk (Kd.R_below (by (with_reducible repeat (first | apply Kd.R_alloc | apply Kd.R_drewN | apply Kd.R_drew)); exact HO_7.out) hb); have n1_ := Aside0.mk (blk_below (g := gb109) (o := .cells #[.string a1_0, .string a1_1, .slice A1_2 l1_2.length c1_2, .slice (some ad127) l1_3.length c1_3] 26 (0, 0)) (by (with_reducible repeat (first | refine blk_drewN ?_ _ | refine blk_drew ?_ | refine blk_alloc ?_ _)); exact BK109.out) hb); have n2_ := Aside0.mk (below_step (by repeat (first | (with_reducible first | exact HB.out | apply below_alloc | apply pw_below_drewN | apply below_drew1 | refine below_set ?_ GE109.out) | exact HB.out)) hb); have n3_ := Aside0.mk (hbox); have n4_ := Aside0.mk ((by rw [hg]; exact (below_size (by repeat (first | (with_reducible first | exact HB.out | apply below_alloc | apply pw_below_drewN | apply below_drew1 | refine below_set ?_ GE109.out) | exact HB.out))) : w.heap.size ≤ gb128)); have n5_ := Aside0.mk ((by rw [hg]; exact (below_size (by repeat (first | (with_reducible first | exact HB.out | apply below_alloc | apply pw_below_drewN | apply below_drew1 | refine below_set ?_ GE109.out) | exact HB.out))) : w.heap.size ≤ gb128)); have n6_ := Aside0.mk ((by rw [hg]; exact Nat.ne_of_lt (blk_lt (g := gb109) (o := .cells #[.string a1_0, .string a1_1, .slice A1_2 l1_2.length c1_2, .slice (some ad127) l1_3.length c1_3] 26 (0, 0)) (by (with_reducible repeat (first | refine blk_drewN ?_ _ | refine blk_drew ?_ | refine blk_alloc ?_ _)); exact BK109.out)) : gb109 ≠ gb128)); have n7_ := Aside0.mk ((by rw [hg]; exact Nat.ne_of_gt (blk_lt (g := gb109) (o := .cells #[.string a1_0, .string a1_1, .slice A1_2 l1_2.length c1_2, .slice (some ad127) l1_3.length c1_3] 26 (0, 0)) (by (with_reducible repeat (first | refine blk_drewN ?_ _ | refine blk_drew ?_ | refine blk_alloc ?_ _)); exact BK109.out)) : gb128 ≠ gb109)); clear HO_7; clear BK109; clear HB; have HO_7 := n0_; have BK109 := n1_; have HB := n2_; have BK128 := n3_; have GW128 := n4_; have GE128 := n5_; have NB109_128 := n6_; have NB128_109 := n7_; clear n0_ n1_ n2_ n3_ n4_ n5_ n6_ n7_; clear hb hbox hg; have hnb36 := NB128_109.out; have hnc36 := NB109_128.out; have hcz37_0 : w35.cell? ⟨gb128, 0, none⟩ = some (.string (⟨#[]⟩ : ByteArray)) := (blk_cell BK128.out 0).trans rfl; have hcz37_1 : w35.cell? ⟨gb128, 1, none⟩ = some (.int .i64 0) := (blk_cell BK128.out 1).trans rfl; have hfz37_0 := blk_frozen BK128.out 0; have hfz37_1 := blk_frozen BK128.out 1))
                    have n0_ : Aside0 (Kd.R (Kd.int .u8) 5 ((w35.setCell ⟨gb128, 0, none⟩ (.string ((rd_T35 l1_3 x48_2).f0))).setCell ⟨gb128, 1, none⟩ (.int .i64 ((rd_T35 l1_3 x48_2).f1))) w.heap.size (fun _ => True) u7 x7_2) := ⟨by (with_reducible repeat (first | apply Kd.R_alloc | apply Kd.R_drewN | apply Kd.R_drew)); exact Kd.R_mono (Kd.R_far (p := ⟨gb128, 1, none⟩) (Kd.R_far (p := ⟨gb128, 0, none⟩) (Kd.R_types HO_7.out BK128.out (by decide)) (fun _ hk => hk.2) (.string ((rd_T35 l1_3 x48_2).f0))) (fun _ hk => hk.2) (.int .i64 ((rd_T35 l1_3 x48_2).f1))) (fun _ hk => trivial)⟩
                    have n1_ : Aside0 (((w35.setCell ⟨gb128, 0, none⟩ (.string ((rd_T35 l1_3 x48_2).f0))).setCell ⟨gb128, 1, none⟩ (.int .i64 ((rd_T35 l1_3 x48_2).f1))).heap[gb109]? = some (.cells #[.string a1_0, .string a1_1, .slice A1_2 l1_2.length c1_2, .slice (some ad127) l1_3.length c1_3] 26 (0, 0))) := ⟨by (with_reducible repeat (first | refine blk_drewN ?_ _ | refine blk_drew ?_ | refine blk_alloc ?_ _)); refine blk_far ?_ NB109_128.out _; (with_reducible repeat (first | refine blk_drewN ?_ _ | refine blk_drew ?_ | refine blk_alloc ?_ _)); refine blk_far ?_ NB109_128.out _; (with_reducible repeat (first | refine blk_drewN ?_ _ | refine blk_drew ?_ | refine blk_alloc ?_ _)); exact BK109.out⟩
                    have n2_ : Aside0 (((w35.setCell ⟨gb128, 0, none⟩ (.string ((rd_T35 l1_3 x48_2).f0))).setCell ⟨gb128, 1, none⟩ (.int .i64 ((rd_T35 l1_3 x48_2).f1))).heap[gb128]? = some (.cells #[.string ((rd_T35 l1_3 x48_2).f0), .int .i64 ((rd_T35 l1_3 x48_2).f1)] 35 (0, 0))) := ⟨by (with_reducible repeat (first | refine blk_drewN ?_ _ | refine blk_drew ?_ | refine blk_alloc ?_ _)); refine blk_put (cs := #[.string ((rd_T35 l1_3 x48_2).f0), .int .i64 0]) ?_ 1 _ rfl; (with_reducible repeat (first | refine blk_drewN ?_ _ | refine blk_drew ?_ | refine blk_alloc ?_ _)); refine blk_put (cs := #[.string (⟨#[]⟩ : ByteArray), .int .i64 0]) ?_ 0 _ rfl; (with_reducible repeat (first | refine blk_drewN ?_ _ | refine blk_drew ?_ | refine blk_alloc ?_ _)); exact BK128.out⟩
                    have n3_ : Aside0 (Below w.heap.size w ((w35.setCell ⟨gb128, 0, none⟩ (.string ((rd_T35 l1_3 x48_2).f0))).setCell ⟨gb128, 1, none⟩ (.int .i64 ((rd_T35 l1_3 x48_2).f1)))) := ⟨by repeat (first | (with_reducible first | exact HB.out | apply below_alloc | apply pw_below_drewN | apply below_drew1 | refine below_set ?_ GE109.out | refine below_set ?_ GE128.out) | exact HB.out)⟩
                    (try clear HO_7)
                    (try clear BK109)
                    (try clear BK128)
                    (try clear HB)
                    generalize ((w35.setCell ⟨gb128, 0, none⟩ (.string ((rd_T35 l1_3 x48_2).f0))).setCell ⟨gb128, 1, none⟩ (.int .i64 ((rd_T35 l1_3 x48_2).f1))) = w38 at n0_ n1_ n2_ n3_ ⊢
                    have HO_7 := n0_
                    have BK109 := n1_
                    have BK128 := n2_
                    have HB := n3_
                    clear n0_ n1_ n2_ n3_
                    have n0_ := Aside0.mk (Kd.R_drew HO_7.out)
                    have n1_ := Aside0.mk (blk_drew BK109.out)
                    have n2_ := Aside0.mk (blk_drew BK128.out)
                    have n3_ := Aside0.mk (below_drew1 HB.out)
                    clear HO_7
                    clear BK109
                    clear BK128
                    clear HB
                    have HO_7 := n0_
                    have BK109 := n1_
                    have BK128 := n2_
                    have HB := n3_
                    clear n0_ n1_ n2_ n3_
                    obtain ⟨Ao40, co40, eo40⟩ := Kd.R_slice HO_7.out
                    (first | subst eo40 | (injection eo40 with f1_ f2_ f3_; have f4_ := f1_.symm; have f5_ := f3_.symm; clear f1_ f2_ f3_; subst f4_; subst f5_))
                    refine start_ (n := 8) (S := fun w' => w'.cell? ⟨gb128, 0, none⟩ = some (.string ((rd_T35 l1_3 x48_2).f0)) ∧ w'.cell? ⟨gb128, 1, none⟩ = some (.int .i64 ((rd_T35 l1_3 x48_2).f1))) (ds := []) #[false, false, false, false, false, false, false, false] (by kernel_rfl) rfl rfl ⟨(blk_cell BK128.out 0).trans rfl, (blk_cell BK128.out 1).trans rfl⟩ (fun hHeld => ?_); refine with_tabW evcode_Put.tab15 evcode_Put.bits15 (fun HT_ HW_ => ?_)
                    generalize w38.drew = w39 at HO_7 BK109 BK128 HB hHeld ⊢
                    refine pure_ (i := 0) (N := some 52) (v := ?_) (a' := ?_) #[true, false, false, false, false, false, false, false] rfl rfl (any_of HT_.out (by kernel_rfl)) (fun _ _ _ h => h) (Or.inl ⟨by rfl, ?_⟩) ?_ ?_
                    rotate_left
                    · intro w'
                      go_simp
                      with_reducible rfl
                    rotate_left
                    · simp only [Act.put, List.setIfInBounds_toArray, List.set_cons_zero, List.set_cons_succ, i64_w, i32_w]
                      rfl
                    refine pure_ (i := 1) (N := some 53) (v := ?_) (a' := ?_) #[true, true, false, false, false, false, false, false] rfl rfl (any_of HT_.out (by kernel_rfl)) (fun _ _ _ h => h) (Or.inl ⟨by rfl, ?_⟩) ?_ ?_
                    rotate_left
                    · intro w'
                      go_simp
                      with_reducible rfl
                    rotate_left
                    · simp only [Act.put, List.setIfInBounds_toArray, List.set_cons_zero, List.set_cons_succ, i64_w, i32_w]
                      rfl
                    refine pure_ (i := 4) (N := some 56) (v := ?_) (a' := ?_) #[true, true, false, false, true, false, false, false] rfl rfl (any_of HT_.out (by kernel_rfl)) (fun _ _ _ h => h) (Or.inl ⟨by rfl, ?_⟩) ?_ ?_
                    rotate_left
                    · intro w'
                      go_simp
                      with_reducible rfl
                    rotate_left
                    · simp only [Act.put, List.setIfInBounds_toArray, List.set_cons_zero, List.set_cons_succ, i64_w, i32_w]
                      rfl
                    refine take_ (i := 2) (N := some 54) (v := ?_) (a' := ?_) #[true, true, true, false, true, false, false, false] rfl rfl (take_ofW HT_.out HW_.out (by kernel_rfl)) (fun _ _ _ h => h) (Or.inl ⟨by rfl, ?_⟩) hHeld ?_ ?_
                    rotate_left
                    · rintro w' ⟨s0, s1⟩
                      go_simp
                      with_reducible rfl
                    rotate_left
                    · simp only [Act.put, List.setIfInBounds_toArray, List.set_cons_zero, List.set_cons_succ, i64_w, i32_w]
                      rfl
                    refine take_ (i := 5) (N := some 57) (v := ?_) (a' := ?_) #[true, true, true, false, true, true, false, false] rfl rfl (take_ofW HT_.out HW_.out (by kernel_rfl)) (fun _ _ _ h => h) (Or.inl ⟨by rfl, ?_⟩) hHeld ?_ ?_
                    rotate_left
                    · rintro w' ⟨s0, s1⟩
                      go_simp
                      with_reducible rfl
                    rotate_left
                    · simp only [Act.put, List.setIfInBounds_toArray, List.set_cons_zero, List.set_cons_succ, i64_w, i32_w]
                      rfl
                    refine one_ (i := 3) (N := some 55) #[true, true, true, true, true, true, false, false] rfl rfl (one_of HT_.out (by kernel_rfl)) (by decide) (fun K hK => ?_)
                    refine goes_ Try.func23 (by kernel_rfl) rfl #[.slice Ao40 x7_2.length co40, .string ((rd_T35 l1_3 x48_2).f0)] (by rfl) rfl rfl (by (try simp only [List.map_toArray, List.map_cons, List.map_nil]); first | done | rfl | (simp only [List.length_drop, List.length_take]; rfl)) ?_
                    with_reducible refine (num_PutText.calls _ _ x7_2 ((rd_T35 l1_3 x48_2).f0) t129 _ ?side1 ?side2 A33.out).mono ?_
                    (case side1 => repeat (first | exact (Kd.R_reads' HO_7.out).2.2 | (with_reducible refine Kd.C_alloc ?_ _) | (with_reducible refine Kd.C_drewN ?_ _) | (with_reducible refine Kd.C_drew ?_)))
                    (case side2 => exact (Kd.R_reads' HO_7.out).2.1)
                    rintro e w41 ⟨v130, rfl, ho0, hb⟩
                    refine ⟨_, rfl, ?_⟩
                    have n0_ := Aside0.mk (Kd.R_elder' (by (with_reducible repeat (first | apply Kd.R_alloc | apply Kd.R_drewN | apply Kd.R_drew)); exact HO_7.out) (Kd.R_base ho0) hb)
                    have n1_ := Aside0.mk (Kd.R_lower (Kd.R_new' ho0 (Kd.R_lt (by (with_reducible repeat (first | apply Kd.R_alloc | apply Kd.R_drewN | apply Kd.R_drew)); exact HO_7.out))) (below_size (by repeat (first | (with_reducible first | exact HB.out | apply below_alloc | apply pw_below_drewN | apply below_drew1 | refine below_set ?_ GE109.out | refine below_set ?_ GE128.out) | exact HB.out))))
                    have n2_ := Aside0.mk (blk_below (g := gb109) (o := .cells #[.string a1_0, .string a1_1, .slice A1_2 l1_2.length c1_2, .slice (some ad127) l1_3.length c1_3] 26 (0, 0)) (by (with_reducible repeat (first | refine blk_drewN ?_ _ | refine blk_drew ?_ | refine blk_alloc ?_ _)); exact BK109.out) hb)
                    have n3_ := Aside0.mk (blk_below (g := gb128) (o := .cells #[.string ((rd_T35 l1_3 x48_2).f0), .int .i64 ((rd_T35 l1_3 x48_2).f1)] 35 (0, 0)) (by (with_reducible repeat (first | refine blk_drewN ?_ _ | refine blk_drew ?_ | refine blk_alloc ?_ _)); exact BK128.out) hb)
                    have n4_ := Aside0.mk (below_step (by repeat (first | (with_reducible first | exact HB.out | apply below_alloc | apply pw_below_drewN | apply below_drew1 | refine below_set ?_ GE109.out | refine below_set ?_ GE128.out) | exact HB.out)) hb)
                    clear HO_7
                    clear BK109
                    clear BK128
                    clear HB
                    have HO_7 := n0_
                    have HO131 := n1_
                    have BK109 := n2_
                    have BK128 := n3_
                    have HB := n4_
                    clear n0_ n1_ n2_ n3_ n4_
                    (try clear hb)
                    (try clear hb2)
                    (try clear hk)
                    (try clear hi)
                    (try clear ho0)
                    obtain ⟨Ao42, co42, eo42⟩ := Kd.R_slice HO131.out
                    (first | subst eo42 | (injection eo42 with f1_ f2_ f3_; have f4_ := f1_.symm; have f5_ := f3_.symm; clear f1_ f2_ f3_; subst f4_; subst f5_))
                    refine hK.out _ _ ⟨(blk_cell BK128.out 0).trans rfl, (blk_cell BK128.out 1).trans rfl⟩ (fun hHeld => ?_)
                    clear hK K
                    refine norm_ (a' := ?_) ?_ ?_
                    rotate_left
                    · show Act.put _ (some 55) _ = _
                      simp only [Act.put, List.setIfInBounds_toArray, List.set_cons_zero, List.set_cons_succ, i64_w, i32_w]
                      rfl
                    refine one_ (i := 6) (N := some 58) #[true, true, true, true, true, true, true, false] rfl rfl (one_of HT_.out (by kernel_rfl)) (by decide) (fun K hK => ?_)
                    refine goes_ Try.func24 (by kernel_rfl) rfl #[.slice Ao42 t129.length co42, .int .i64 ((rd_T35 l1_3 x48_2).f1)] (by rfl) rfl rfl (by (try simp only [List.map_toArray, List.map_cons, List.map_nil]); first | done | rfl | (simp only [List.length_drop, List.length_take]; rfl)) ?_
                    with_reducible refine (num_Put.calls _ _ t129 ((rd_T35 l1_3 x48_2).f1) t132 _ ?side1 ?side2 A34.out).mono ?_
                    (case side1 => repeat (first | exact (Kd.R_reads' HO131.out).2.2 | (with_reducible refine Kd.C_alloc ?_ _) | (with_reducible refine Kd.C_drewN ?_ _) | (with_reducible refine Kd.C_drew ?_)))
                    (case side2 => exact (Kd.R_reads' HO131.out).2.1)
                    rintro e w43 ⟨v133, rfl, ho0, hb⟩
                    refine ⟨_, rfl, ?_⟩
                    have n0_ := Aside0.mk (Kd.R_elder' (by (with_reducible repeat (first | apply Kd.R_alloc | apply Kd.R_drewN | apply Kd.R_drew)); exact HO_7.out) (Kd.R_base ho0) hb)
                    have n1_ := Aside0.mk (Kd.R_elder' (by (with_reducible repeat (first | apply Kd.R_alloc | apply Kd.R_drewN | apply Kd.R_drew)); exact HO131.out) (Kd.R_base ho0) hb)
                    have n2_ := Aside0.mk (Kd.R_lower (Kd.R_new' (Kd.R_new' ho0 (Kd.R_lt (by (with_reducible repeat (first | apply Kd.R_alloc | apply Kd.R_drewN | apply Kd.R_drew)); exact HO_7.out))) (Kd.R_lt (by (with_reducible repeat (first | apply Kd.R_alloc | apply Kd.R_drewN | apply Kd.R_drew)); exact HO131.out))) (below_size (by repeat (first | (with_reducible first | exact HB.out | apply below_alloc | apply pw_below_drewN | apply below_drew1 | refine below_set ?_ GE109.out | refine below_set ?_ GE128.out) | exact HB.out))))
                    have n3_ := Aside0.mk (blk_below (g := gb109) (o := .cells #[.string a1_0, .string a1_1, .slice A1_2 l1_2.length c1_2, .slice (some ad127) l1_3.length c1_3] 26 (0, 0)) (by (with_reducible repeat (first | refine blk_drewN ?_ _ | refine blk_drew ?_ | refine blk_alloc ?_ _)); exact BK109.out) hb)
                    have n4_ := Aside0.mk (blk_below (g := gb128) (o := .cells #[.string ((rd_T35 l1_3 x48_2).f0), .int .i64 ((rd_T35 l1_3 x48_2).f1)] 35 (0, 0)) (by (with_reducible repeat (first | refine blk_drewN ?_ _ | refine blk_drew ?_ | refine blk_alloc ?_ _)); exact BK128.out) hb)
                    have n5_ := Aside0.mk (below_step (by repeat (first | (with_reducible first | exact HB.out | apply below_alloc | apply pw_below_drewN | apply below_drew1 | refine below_set ?_ GE109.out | refine below_set ?_ GE128.out) | exact HB.out)) hb)
                    clear HO_7
                    clear HO131
                    clear BK109
                    clear BK128
                    clear HB
                    have HO_7 := n0_
                    have HO131 := n1_
                    have HO134 := n2_
                    have BK109 := n3_
                    have BK128 := n4_
                    have HB := n5_
                    clear n0_ n1_ n2_ n3_ n4_ n5_
                    (try clear hb)
                    (try clear hb2)
                    (try clear hk)
                    (try clear hi)
                    (try clear ho0)
                    refine hK.out _ _ ⟨(blk_cell BK128.out 0).trans rfl, (blk_cell BK128.out 1).trans rfl⟩ (fun hHeld => ?_)
                    clear hK K
                    refine norm_ (a' := ?_) ?_ ?_
                    rotate_left
                    · show Act.put _ (some 58) _ = _
                      simp only [Act.put, List.setIfInBounds_toArray, List.set_cons_zero, List.set_cons_succ, i64_w, i32_w]
                      rfl
                    refine pure_ (i := 7) (N := some 7) (v := ?_) (a' := ?_) #[true, true, true, true, true, true, true, true] rfl rfl (any_of HT_.out (by kernel_rfl)) (fun _ _ _ h => h) (Or.inl ⟨by rfl, ?_⟩) ?_ ?_
                    rotate_left
                    · intro w'
                      go_simp
                      with_reducible rfl
                    rotate_left
                    · simp only [Act.put, List.setIfInBounds_toArray, List.set_cons_zero, List.set_cons_succ, i64_w, i32_w]
                      rfl
                    refine done_ (done_of HT_.out (by kernel_rfl)) ?_
                    try go_wp2
                    go_roundg k2
                    case measure => have := HK1.out; have := HK2.out; omega
                    case rel => exact ⟨(t132), (wrap64 (x48_2 + 1)), (by first | rfl | (simp; done) | (simp [*]; done)), H', ⟨by have := HK1.out; have := HK2.out; omega⟩, ⟨by (with_reducible repeat (first | apply Kd.R_alloc | apply Kd.R_drewN | apply Kd.R_drew)); exact Kd.R_mono HO134.out (fun _ hk => trivial)⟩, ⟨by (with_reducible repeat (first | refine blk_drewN ?_ _ | refine blk_drew ?_ | refine blk_alloc ?_ _)); exact BK109.out⟩, ⟨by repeat (first | (with_reducible first | exact HB.out | apply below_alloc | apply pw_below_drewN | apply below_drew1 | refine below_set ?_ GE109.out | refine below_set ?_ GE128.out) | exact HB.out)⟩⟩
                  · rw [if_neg c32] at H
                    exact absurd H (by simp)
                · rw [if_neg c31] at H
                  exact absurd H (by simp)
              · rw [if_neg c30] at H
                have c30b0 : decide (x48_2 < (l1_3.length : Int)) = false := decide_eq_false c30
                clear c30
                simp only [Option.some.injEq, Prod.mk.injEq] at H
                obtain ⟨rfl, rfl⟩ := H
                go_wp2
                go_ret2
                exact ⟨_, by first | rfl | (simp [errW_none, errW_some] <;> rfl) | (simp [*, errW_none, errW_some] <;> rfl), by (with_reducible repeat (first | apply Kd.R_alloc | apply Kd.R_drewN | apply Kd.R_drew)); exact HO_7.out, by repeat (first | (with_reducible first | exact HB.out | apply below_alloc | apply pw_below_drewN | apply below_drew1 | refine below_set ?_ GE109.out) | exact HB.out)⟩
  · rw [if_neg c4] at H
    have c4b0 : (t110 == 0) = false := beq_eq_false_iff_ne.mpr c4
    have c4b1 : (t110 != 0) = true := bne_iff_ne.mpr c4
    simp only [Option.some.injEq, Prod.mk.injEq] at H
    obtain ⟨rfl, rfl⟩ := H
    go_enter Try.func10, Try.ntmps10
    go_wp2_with (first | ((with_reducible refine gate_dst (N := 3) rfl ?_); refine box_event ?hg (N := 3) ?hd (cs := #[.string a1_0, .string a1_1, .slice A1_2 l1_2.length c1_2, .slice A1_3 l1_3.length c1_3]) (t := 26) ?hr ?_; (case hd => rfl); (case hg => rfl); (case hr => first | (go_simp; done) | (go_simp; rfl)); intro gb109 hg w44 hbox hb; have n0_ := Aside0.mk (below_step (by repeat (first | (with_reducible first | exact HB.out | apply below_alloc | apply pw_below_drewN | apply below_drew1) | exact HB.out)) hb); have n1_ := Aside0.mk (hbox); have n2_ := Aside0.mk ((by rw [hg]; exact (below_size (by repeat (first | (with_reducible first | exact HB.out | apply below_alloc | apply pw_below_drewN | apply below_drew1) | exact HB.out))) : w.heap.size ≤ gb109)); have n3_ := Aside0.mk ((by rw [hg]; exact (below_size (by repeat (first | (with_reducible first | exact HB.out | apply below_alloc | apply pw_below_drewN | apply below_drew1) | exact HB.out))) : w.heap.size ≤ gb109)); clear HB; have HB := n0_; have BK109 := n1_; have GW109 := n2_; have GE109 := n3_; clear n0_ n1_ n2_ n3_; clear hb hbox hg; have hcz45_0 : w44.cell? ⟨gb109, 0, none⟩ = some (.string a1_0) := (blk_cell BK109.out 0).trans rfl; have hcz45_1 : w44.cell? ⟨gb109, 1, none⟩ = some (.string a1_1) := (blk_cell BK109.out 1).trans rfl; have hcz45_2 : w44.cell? ⟨gb109, 2, none⟩ = some (.slice A1_2 l1_2.length c1_2) := (blk_cell BK109.out 2).trans rfl; have hcz45_3 : w44.cell? ⟨gb109, 3, none⟩ = some (.slice A1_3 l1_3.length c1_3) := (blk_cell BK109.out 3).trans rfl; have hfz45_0 := blk_frozen BK109.out 0; have hfz45_1 := blk_frozen BK109.out 1; have hfz45_2 := blk_frozen BK109.out 2; have hfz45_3 := blk_frozen BK109.out 3) | ((with_reducible refine gate_callee (f := 22) rfl ?_); refine goesL_ (some 13) rfl rfl Try.func22 (by kernel_rfl) rfl #[.agg #[.string a1_0, .string a1_1, .slice A1_2 l1_2.length c1_2, .slice A1_3 l1_3.length c1_3]] rfl (by (try simp only [List.map_toArray, List.map_cons, List.map_nil]); first | done | rfl | (simp only [List.length_drop, List.length_take]; rfl)) ?_; (with_reducible refine (event_May.calls a1_0 a1_1 _ _ l1_2 _ _ l1_3 t110 _ ?side1 ?side2 ?side3 ?side4 A3.out).mono ?_); (case side1 => repeat (first | exact (Kd.C_below HR1_2.out HB.out) | (with_reducible refine Kd.C_alloc ?_ _) | (with_reducible refine Kd.C_drewN ?_ _) | (with_reducible refine Kd.C_drew ?_))); (case side2 => exact HC1_2.out); (case side3 => repeat (first | exact (Kd.C_below HR1_3.out HB.out) | (with_reducible refine Kd.C_alloc ?_ _) | (with_reducible refine Kd.C_drewN ?_ _) | (with_reducible refine Kd.C_drew ?_))); (case side4 => exact HC1_3.out); rintro e w46 ⟨rfl, hb⟩; refine ⟨_, rfl, ?_⟩; have n0_ := Aside0.mk (blk_below (g := gb109) (o := .cells #[.string a1_0, .string a1_1, .slice A1_2 l1_2.length c1_2, .slice A1_3 l1_3.length c1_3] 26 (0, 0)) (by (with_reducible repeat (first | refine blk_drewN ?_ _ | refine blk_drew ?_ | refine blk_alloc ?_ _)); exact BK109.out) hb); have n1_ := Aside0.mk (below_step (by repeat (first | (with_reducible first | exact HB.out | apply below_alloc | apply pw_below_drewN | apply below_drew1 | refine below_set ?_ GE109.out) | exact HB.out)) hb); clear BK109; clear HB; have BK109 := n0_; have HB := n1_; clear n0_ n1_; (try clear hb); (try clear hb2); (try clear hk); (try clear hi)))
    go_ret2
    exact ⟨_, by first | rfl | (simp [errW_none, errW_some] <;> rfl) | (simp [*, errW_none, errW_some] <;> rfl), by first | exact Kd.R_nil _ _ _ _ _ | exact Kd.N_nil _ _ _ _ _ | exact Kd.V_nil _ _ _ _ _ | exact Kd.Q_nil _ _ _ _ _ | exact Kd.S_nil _ _ _ _ _, by repeat (first | (with_reducible first | exact HB.out | apply below_alloc | apply pw_below_drewN | apply below_drew1 | refine below_set ?_ GE109.out) | exact HB.out)⟩

end Go.Proofs.Ytmnidohgnnpeiaa.Prt
namespace Go.Proofs.Ytmnidohgnnpeiaa.Prt
open Go.RowKit Go.Proofs.YtmnidohgnnpeiaaW.PrintWords Go.Proofs.YtmnidohgnnpeiaaW.PrintLast Go.Proofs.YtmnidohgnnpeiaaW.PrintMore
attribute [local go_sem] max2_int min2_int max_two min_two max_three min_three max_four min_four   -- for this text's walks alone
set_option linter.unusedVariables false
set_option linter.unusedSimpArgs false

/-! ### registrarref05_Put: function 12 -/
mutual
def registrarref05_Put.l0 : Nat → List Int → Int → ByteArray → ByteArray → List ByteArray → List (S35) → Option (List Int × Int)
  | 0, _, _, _, _, _, _ => none
  | k + 1, x7, x8, x192000, x192001, x192002, x192003 => if x8 < (x192002.length : Int) then (if 0 ≤ x8 then ((registrarref01_PutText.f x7 (rdOf ByteArray.empty x192002 x8)).bind fun t203 => (registrarref05_Put.l0 k t203 (wrap64 (x8 + 1)) x192000 x192001 x192002 x192003)) else (none)) else ((registrarref01_Put.f x7 (x192003.length : Int)).bind fun t206 => (registrarref05_Put.l1 k t206 0 x192000 x192001 x192002 x192003))
def registrarref05_Put.l1 : Nat → List Int → Int → ByteArray → ByteArray → List ByteArray → List (S35) → Option (List Int × Int)
  | 0, _, _, _, _, _, _ => none
  | k + 1, x7, x9, x192000, x192001, x192002, x192003 => if x9 < (x192003.length : Int) then (if 0 ≤ x9 then ((registrarref01_PutText.f x7 ((rd_T35 x192003 x9).f0)).bind fun t210 => ((registrarref01_Put.f t210 ((rd_T35 x192003 x9).f1)).bind fun t214 => (registrarref05_Put.l1 k t214 (wrap64 (x9 + 1)) x192000 x192001 x192002 x192003))) else (none)) else (some (x7, 0))
end
def registrarref05_Put.f (k : Nat) (l0 : List Int) (a1_0 : ByteArray) (a1_1 : ByteArray) (l1_2 : List ByteArray) (l1_3 : List (S35)) : Option (List Int × Int) := (registrarref04_MayG.f a1_0 a1_1 l1_2 l1_3).bind fun t192 => (if t192 = 0 then ((registrarref01_PutText.f l0 a1_0).bind fun t193 => ((registrarref01_PutText.f t193 a1_1).bind fun t196 => ((registrarref01_Put.f t196 (l1_2.length : Int)).bind fun t199 => (registrarref05_Put.l0 k t199 0 a1_0 a1_1 l1_2 l1_3)))) else (some (([] : List Int), t192)))
theorem registrarref05_Put.mono_l : ∀ k, (∀ y0 y1 y2 y3 y4 y5, LeO (registrarref05_Put.l0 k y0 y1 y2 y3 y4 y5) (registrarref05_Put.l0 (k + 1) y0 y1 y2 y3 y4 y5)) ∧ (∀ y0 y1 y2 y3 y4 y5, LeO (registrarref05_Put.l1 k y0 y1 y2 y3 y4 y5) (registrarref05_Put.l1 (k + 1) y0 y1 y2 y3 y4 y5))
  | 0 => ⟨fun _ _ _ _ _ _ r h => by simp [registrarref05_Put.l0] at h, fun _ _ _ _ _ _ r h => by simp [registrarref05_Put.l1] at h⟩
  | k + 1 => by
    obtain ⟨ih0, ih1⟩ := registrarref05_Put.mono_l k
    refine ⟨?_, ?_⟩
    · intro y0 y1 y2 y3 y4 y5
      unfold registrarref05_Put.l0
      repeat' first
      | (with_reducible exact ih0 _ _ _ _ _ _)
      | (with_reducible exact ih1 _ _ _ _ _ _)
      | (with_reducible exact LeO.refl _)
      | (with_reducible exact LeO.none _)
      | (with_reducible refine LeO.ite ?_ ?_)
      | (with_reducible refine LeO.bind ?_ (fun _ => ?_))
      | exact ih0 _ _ _ _ _ _
      | exact ih1 _ _ _ _ _ _
      | exact LeO.none _
      | refine LeO.ite ?_ ?_
      | refine LeO.bind ?_ (fun _ => ?_)
    · intro y0 y1 y2 y3 y4 y5
      unfold registrarref05_Put.l1
      repeat' first
      | (with_reducible exact ih0 _ _ _ _ _ _)
      | (with_reducible exact ih1 _ _ _ _ _ _)
      | (with_reducible exact LeO.refl _)
      | (with_reducible exact LeO.none _)
      | (with_reducible refine LeO.ite ?_ ?_)
      | (with_reducible refine LeO.bind ?_ (fun _ => ?_))
      | exact ih0 _ _ _ _ _ _
      | exact ih1 _ _ _ _ _ _
      | exact LeO.none _
      | refine LeO.ite ?_ ?_
      | refine LeO.bind ?_ (fun _ => ?_)
theorem registrarref05_Put.mono : ∀ a0 a1 a2 a3 a4 k, LeO (registrarref05_Put.f k a0 a1 a2 a3 a4) (registrarref05_Put.f (k + 1) a0 a1 a2 a3 a4) := by
  intro a0 a1 a2 a3 a4 k
  obtain ⟨ih0, ih1⟩ := registrarref05_Put.mono_l k
  unfold registrarref05_Put.f
  repeat' first
      | (with_reducible exact ih0 _ _ _ _ _ _)
      | (with_reducible exact ih1 _ _ _ _ _ _)
      | (with_reducible exact LeO.refl _)
      | (with_reducible exact LeO.none _)
      | (with_reducible refine LeO.ite ?_ ?_)
      | (with_reducible refine LeO.bind ?_ (fun _ => ?_))
      | exact ih0 _ _ _ _ _ _
      | exact ih1 _ _ _ _ _ _
      | exact LeO.none _
      | refine LeO.ite ?_ ?_
      | refine LeO.bind ?_ (fun _ => ?_)
def registrarref05_Put.T4 : Bool × List (List Nat × List Nat) := (true, [([], []), ([], []), ([1], [1]), ([0, 2], [0, 2]), ([], []), ([4], [4]), ([3, 5, 3], [3, 5]), ([6, 6, 0, 1, 2, 3, 4, 5, 6], [6])])
def registrarref05_Put.B4 : List Nat := [0, 0, 2, 7, 0, 16, 63, 127]
theorem registrarref05_Put.tab4 : rtab .any (opsOf Try.f12 4) = registrarref05_Put.T4 := by kernel_rfl
theorem registrarref05_Put.bits4 : waitsOk registrarref05_Put.T4.2 registrarref05_Put.B4 = true := by kernel_rfl
def registrarref05_Put.T14 : Bool × List (List Nat × List Nat) := (true, [([], []), ([], []), ([1], [1]), ([], []), ([2, 3], [2, 3]), ([4], [4]), ([5], [5]), ([0, 6], [0, 6]), ([], []), ([8], [8]), ([], []), ([9, 10], [9, 10]), ([11], [11]), ([12], [12]), ([7, 13, 7], [7, 13]), ([14, 14, 0, 1, 2, 3, 4, 5, 6, 7, 8, 9, 10, 11, 12, 13, 14], [0, 14])])
def registrarref05_Put.B14 : List Nat := [0, 0, 2, 0, 14, 30, 62, 127, 0, 256, 0, 1792, 3840, 7936, 16383, 32767]
theorem registrarref05_Put.tab14 : rtab .any (opsOf Try.f12 14) = registrarref05_Put.T14 := by kernel_rfl
theorem registrarref05_Put.bits14 : waitsOk registrarref05_Put.T14.2 registrarref05_Put.B14 = true := by kernel_rfl
set_option maxHeartbeats 8000000 in
set_option maxRecDepth 100000 in
theorem registrarref05_Put.calls (k : Nat) (A0 : Option Addr) (c0 : Nat) (l0 : List Int) (a1_0 : ByteArray) (a1_1 : ByteArray) (A1_2 : Option Addr) (c1_2 : Nat) (l1_2 : List ByteArray) (A1_3 : Option Addr) (c1_3 : Nat) (l1_3 : List (S35)) (r1 : List Int) (r2 : Int) (w : World) (hr0 : Kd.C (Kd.int .u8) w A0 l0.length l0) (hc0 : l0.length ≤ c0) (hr1_2 : Kd.C Kd.string w A1_2 l1_2.length l1_2) (hc1_2 : l1_2.length ≤ c1_2) (hr1_3 : Kd.C k35 w A1_3 l1_3.length l1_3) (hc1_3 : l1_3.length ≤ c1_3) (h : registrarref05_Put.f k l0 a1_0 a1_1 l1_2 l1_3 = some (r1, r2)) :
    Calls Try.prog 12 #[.slice A0 l0.length c0, .agg #[.string a1_0, .string a1_1, .slice A1_2 l1_2.length c1_2, .slice A1_3 l1_3.length c1_3]] w fun e w' => ∃ v0_ : Value, e = .returned (.tuple #[v0_, .int .i64 r2]) ∧ Kd.R (Kd.int .u8) 5 w' w.heap.size (fun _ => True) v0_ r1 ∧ Below w.heap.size w w' := by
  have hu26 := Try.underlying26
  have HR0 := Aside0.mk hr0
  have HC0 := Aside0.mk hc0
  clear hr0 hc0
  have HR1_2 := Aside0.mk hr1_2
  have HC1_2 := Aside0.mk hc1_2
  clear hr1_2 hc1_2
  have HR1_3 := Aside0.mk hr1_3
  have HC1_3 := Aside0.mk hc1_3
  clear hr1_3 hc1_3
  have HB := Aside0.mk (Below.refl w.heap.size w)
  have H : ((registrarref04_MayG.f a1_0 a1_1 l1_2 l1_3).bind fun t192 => (if t192 = 0 then ((registrarref01_PutText.f l0 a1_0).bind fun t193 => ((registrarref01_PutText.f t193 a1_1).bind fun t196 => ((registrarref01_Put.f t196 (l1_2.length : Int)).bind fun t199 => (registrarref05_Put.l0 k t199 0 a1_0 a1_1 l1_2 l1_3)))) else (some (([] : List Int), t192)))) = some (r1, r2) := h
  clear h
  replace H := Option.bind_eq_some_iff.mp H
  obtain ⟨t192, A30, H⟩ := H
  replace H : (if t192 = 0 then ((registrarref01_PutText.f l0 a1_0).bind fun t193 => ((registrarref01_PutText.f t193 a1_1).bind fun t196 => ((registrarref01_Put.f t196 (l1_2.length : Int)).bind fun t199 => (registrarref05_Put.l0 k t199 0 a1_0 a1_1 l1_2 l1_3)))) else (some (([] : List Int), t192))) = some (r1, r2) := H
  have A3 := Aside0.mk A30
  clear A30
  by_cases c4 : t192 = 0
  · rw [if_pos c4] at H
    have c4b0 : (t192 == 0) = true := beq_iff_eq.mpr c4
    have c4b1 : (t192 != 0) = false := bne_eq_false_iff_eq.mpr c4
    clear c4
    replace H := Option.bind_eq_some_iff.mp H
    obtain ⟨t193, A50, H⟩ := H
    replace H : ((registrarref01_PutText.f t193 a1_1).bind fun t196 => ((registrarref01_Put.f t196 (l1_2.length : Int)).bind fun t199 => (registrarref05_Put.l0 k t199 0 a1_0 a1_1 l1_2 l1_3))) = some (r1, r2) := H
    have A5 := Aside0.mk A50
    clear A50
    replace H := Option.bind_eq_some_iff.mp H
    obtain ⟨t196, A60, H⟩ := H
    replace H : ((registrarref01_Put.f t196 (l1_2.length : Int)).bind fun t199 => (registrarref05_Put.l0 k t199 0 a1_0 a1_1 l1_2 l1_3)) = some (r1, r2) := H
    have A6 := Aside0.mk A60
    clear A60
    replace H := Option.bind_eq_some_iff.mp H
    obtain ⟨t199, A70, H⟩ := H
    replace H : (registrarref05_Put.l0 k t199 0 a1_0 a1_1 l1_2 l1_3) = some (r1, r2) := H
    have A7 := Aside0.mk A70
    clear A70
    have H' := Aside0.mk H
    clear H
    go_enter Try.func12, Try.ntmps12
    try go_wp2_with (first | ((with_reducible refine gate_dst (N := 3) rfl ?_); refine box_event ?hg (N := 3) ?hd (cs := #[.string a1_0, .string a1_1, .slice A1_2 l1_2.length c1_2, .slice A1_3 l1_3.length c1_3]) (t := 26) ?hr ?_; (case hd => rfl); (case hg => rfl); (case hr => first | (go_simp; done) | (go_simp; rfl)); intro gb191 hg w8 hbox hb; have n0_ := Aside0.mk (below_step (by repeat (first | (with_reducible first | exact HB.out | apply below_alloc | apply pw_below_drewN | apply below_drew1) | exact HB.out)) hb); have n1_ := Aside0.mk (hbox); have n2_ := Aside0.mk ((by rw [hg]; exact (below_size (by repeat (first | (with_reducible first | exact HB.out | apply below_alloc | apply pw_below_drewN | apply below_drew1) | exact HB.out))) : w.heap.size ≤ gb191)); have n3_ := Aside0.mk ((by rw [hg]; exact (below_size (by repeat (first | (with_reducible first | exact HB.out | apply below_alloc | apply pw_below_drewN | apply below_drew1) | exact HB.out))) : w.heap.size ≤ gb191)); clear HB; have HB := n0_; have BK191 := n1_; have GW191 := n2_; have GE191 := n3_; clear n0_ n1_ n2_ n3_; clear hb hbox hg; have hcz9_0 : w8.cell? ⟨gb191, 0, none⟩ = some (.string a1_0) := (blk_cell BK191.out 0).trans rfl; have hcz9_1 : w8.cell? ⟨gb191, 1, none⟩ = some (.string a1_1) := (blk_cell BK191.out 1).trans rfl; have hcz9_2 : w8.cell? ⟨gb191, 2, none⟩ = some (.slice A1_2 l1_2.length c1_2) := (blk_cell BK191.out 2).trans rfl; have hcz9_3 : w8.cell? ⟨gb191, 3, none⟩ = some (.slice A1_3 l1_3.length c1_3) := (blk_cell BK191.out 3).trans rfl; have hfz9_0 := blk_frozen BK191.out 0; have hfz9_1 := blk_frozen BK191.out 1; have hfz9_2 := blk_frozen BK191.out 2; have hfz9_3 := blk_frozen BK191.out 3) | ((with_reducible refine gate_callee (f := 25) rfl ?_); refine goesL_ (some 11) rfl rfl Try.func25 (by kernel_rfl) rfl #[.agg #[.string a1_0, .string a1_1, .slice A1_2 l1_2.length c1_2, .slice A1_3 l1_3.length c1_3]] rfl (by (try simp only [List.map_toArray, List.map_cons, List.map_nil]); first | done | rfl | (simp only [List.length_drop, List.length_take]; rfl)) ?_; (with_reducible refine (registrarref04_MayG.calls a1_0 a1_1 _ _ l1_2 _ _ l1_3 t192 _ ?side1 ?side2 ?side3 ?side4 A3.out).mono ?_); (case side1 => repeat (first | exact (Kd.C_below HR1_2.out HB.out) | (with_reducible refine Kd.C_alloc ?_ _) | (with_reducible refine Kd.C_drewN ?_ _) | (with_reducible refine Kd.C_drew ?_))); (case side2 => exact HC1_2.out); (case side3 => repeat (first | exact (Kd.C_below HR1_3.out HB.out) | (with_reducible refine Kd.C_alloc ?_ _) | (with_reducible refine Kd.C_drewN ?_ _) | (with_reducible refine Kd.C_drew ?_))); (case side4 => exact HC1_3.out); rintro e w10 ⟨rfl, hb⟩; refine ⟨_, rfl, ?_⟩; have n0_ := Aside0.mk (blk_below (g := gb191) (o := .cells #[.string a1_0, .string a1_1, .slice A1_2 l1_2.length c1_2, .slice A1_3 l1_3.length c1_3] 26 (0, 0)) (by (with_reducible repeat (first | refine blk_drewN ?_ _ | refine blk_drew ?_ | refine blk_alloc ?_ _)); exact BK191.out) hb); have n1_ := Aside0.mk (below_step (by repeat (first | (with_reducible first | exact HB.out | apply below_alloc | apply pw_below_drewN | apply below_drew1 | refine below_set ?_ GE191.out) | exact HB.out)) hb); clear BK191; clear HB; have BK191 := n0_; have HB := n1_; clear n0_ n1_; (try clear hb); (try clear hb2); (try clear hk); (try clear hi)))
    have n0_ := Aside0.mk (blk_drew BK191.out)
    have n1_ := Aside0.mk (below_drew1 HB.out)
    clear BK191
    clear HB
    have BK191 := n0_
    have HB := n1_
    clear n0_ n1_
    refine start_ (n := 8) (S := fun w' => w'.cell? ⟨gb191, 0, none⟩ = some (.string a1_0) ∧ w'.cell? ⟨gb191, 1, none⟩ = some (.string a1_1) ∧ w'.cell? ⟨gb191, 2, none⟩ = some (.slice A1_2 l1_2.length c1_2) ∧ w'.cell? ⟨gb191, 3, none⟩ = some (.slice A1_3 l1_3.length c1_3)) (ds := []) #[false, false, false, false, false, false, false, false] (by kernel_rfl) rfl rfl ⟨(blk_cell BK191.out 0).trans rfl, (blk_cell BK191.out 1).trans rfl, (blk_cell BK191.out 2).trans rfl, (blk_cell BK191.out 3).trans rfl⟩ (fun hHeld => ?_); refine with_tabW registrarref05_Put.tab4 registrarref05_Put.bits4 (fun HT_ HW_ => ?_)
    generalize w10.drew = w11 at BK191 HB hHeld ⊢
    refine pure_ (i := 0) (N := some 15) (v := ?_) (a' := ?_) #[true, false, false, false, false, false, false, false] rfl rfl (any_of HT_.out (by kernel_rfl)) (fun _ _ _ h => h) (Or.inl ⟨by rfl, ?_⟩) ?_ ?_
    rotate_left
    · intro w'
      go_simp
      with_reducible rfl
    rotate_left
    · simp only [Act.put, List.setIfInBounds_toArray, List.set_cons_zero, List.set_cons_succ, i64_w, i32_w]
      rfl
    refine pure_ (i := 1) (N := some 16) (v := ?_) (a' := ?_) #[true, true, false, false, false, false, false, false] rfl rfl (any_of HT_.out (by kernel_rfl)) (fun _ _ _ h => h) (Or.inl ⟨by rfl, ?_⟩) ?_ ?_
    rotate_left
    · intro w'
      go_simp
      with_reducible rfl
    rotate_left
    · simp only [Act.put, List.setIfInBounds_toArray, List.set_cons_zero, List.set_cons_succ, i64_w, i32_w]
      rfl
    refine pure_ (i := 4) (N := some 19) (v := ?_) (a' := ?_) #[true, true, false, false, true, false, false, false] rfl rfl (any_of HT_.out (by kernel_rfl)) (fun _ _ _ h => h) (Or.inl ⟨by rfl, ?_⟩) ?_ ?_
    rotate_left
    · intro w'
      go_simp
      with_reducible rfl
    rotate_left
    · simp only [Act.put, List.setIfInBounds_toArray, List.set_cons_zero, List.set_cons_succ, i64_w, i32_w]
      rfl
    refine take_ (i := 2) (N := some 17) (v := ?_) (a' := ?_) #[true, true, true, false, true, false, false, false] rfl rfl (take_ofW HT_.out HW_.out (by kernel_rfl)) (fun _ _ _ h => h) (Or.inl ⟨by rfl, ?_⟩) hHeld ?_ ?_
    rotate_left
    · rintro w' ⟨s0, s1, s2, s3⟩
      go_simp
      with_reducible rfl
    rotate_left
    · simp only [Act.put, List.setIfInBounds_toArray, List.set_cons_zero, List.set_cons_succ, i64_w, i32_w]
      rfl
    refine take_ (i := 5) (N := some 20) (v := ?_) (a' := ?_) #[true, true, true, false, true, true, false, false] rfl rfl (take_ofW HT_.out HW_.out (by kernel_rfl)) (fun _ _ _ h => h) (Or.inl ⟨by rfl, ?_⟩) hHeld ?_ ?_
    rotate_left
    · rintro w' ⟨s0, s1, s2, s3⟩
      go_simp
      with_reducible rfl
    rotate_left
    · simp only [Act.put, List.setIfInBounds_toArray, List.set_cons_zero, List.set_cons_succ, i64_w, i32_w]
      rfl
    refine one_ (i := 3) (N := some 18) #[true, true, true, true, true, true, false, false] rfl rfl (one_of HT_.out (by kernel_rfl)) (by decide) (fun K hK => ?_)
    refine goes_ Try.func26 (by kernel_rfl) rfl #[.slice A0 l0.length c0, .string a1_0] (by rfl) rfl rfl (by (try simp only [List.map_toArray, List.map_cons, List.map_nil]); first | done | rfl | (simp only [List.length_drop, List.length_take]; rfl)) ?_
    with_reducible refine (registrarref01_PutText.calls _ _ l0 a1_0 t193 _ ?side1 ?side2 A5.out).mono ?_
    (case side1 => repeat (first | exact (Kd.C_below HR0.out HB.out) | (with_reducible refine Kd.C_alloc ?_ _) | (with_reducible refine Kd.C_drewN ?_ _) | (with_reducible refine Kd.C_drew ?_)))
    (case side2 => exact HC0.out)
    rintro e w12 ⟨v194, rfl, ho0, hb⟩
    refine ⟨_, rfl, ?_⟩
    have n0_ := Aside0.mk (Kd.R_lower ho0 (below_size (by repeat (first | (with_reducible first | exact HB.out | apply below_alloc | apply pw_below_drewN | apply below_drew1 | refine below_set ?_ GE191.out) | exact HB.out))))
    have n1_ := Aside0.mk (blk_below (g := gb191) (o := .cells #[.string a1_0, .string a1_1, .slice A1_2 l1_2.length c1_2, .slice A1_3 l1_3.length c1_3] 26 (0, 0)) (by (with_reducible repeat (first | refine blk_drewN ?_ _ | refine blk_drew ?_ | refine blk_alloc ?_ _)); exact BK191.out) hb)
    have n2_ := Aside0.mk (below_step (by repeat (first | (with_reducible first | exact HB.out | apply below_alloc | apply pw_below_drewN | apply below_drew1 | refine below_set ?_ GE191.out) | exact HB.out)) hb)
    clear BK191
    clear HB
    have HO195 := n0_
    have BK191 := n1_
    have HB := n2_
    clear n0_ n1_ n2_
    (try clear hb)
    (try clear hb2)
    (try clear hk)
    (try clear hi)
    (try clear ho0)
    obtain ⟨Ao13, co13, eo13⟩ := Kd.R_slice HO195.out
    (first | subst eo13 | (injection eo13 with f1_ f2_ f3_; have f4_ := f1_.symm; have f5_ := f3_.symm; clear f1_ f2_ f3_; subst f4_; subst f5_))
    refine hK.out _ _ ⟨(blk_cell BK191.out 0).trans rfl, (blk_cell BK191.out 1).trans rfl, (blk_cell BK191.out 2).trans rfl, (blk_cell BK191.out 3).trans rfl⟩ (fun hHeld => ?_)
    clear hK K
    refine norm_ (a' := ?_) ?_ ?_
    rotate_left
    · show Act.put _ (some 18) _ = _
      simp only [Act.put, List.setIfInBounds_toArray, List.set_cons_zero, List.set_cons_succ, i64_w, i32_w]
      rfl
    refine one_ (i := 6) (N := some 21) #[true, true, true, true, true, true, true, false] rfl rfl (one_of HT_.out (by kernel_rfl)) (by decide) (fun K hK => ?_)
    refine goes_ Try.func26 (by kernel_rfl) rfl #[.slice Ao13 t193.length co13, .string a1_1] (by rfl) rfl rfl (by (try simp only [List.map_toArray, List.map_cons, List.map_nil]); first | done | rfl | (simp only [List.length_drop, List.length_take]; rfl)) ?_
    with_reducible refine (registrarref01_PutText.calls _ _ t193 a1_1 t196 _ ?side1 ?side2 A6.out).mono ?_
    (case side1 => repeat (first | exact (Kd.R_reads' HO195.out).2.2 | (with_reducible refine Kd.C_alloc ?_ _) | (with_reducible refine Kd.C_drewN ?_ _) | (with_reducible refine Kd.C_drew ?_)))
    (case side2 => exact (Kd.R_reads' HO195.out).2.1)
    rintro e w14 ⟨v197, rfl, ho0, hb⟩
    refine ⟨_, rfl, ?_⟩
    have n0_ := Aside0.mk (Kd.R_elder' (by (with_reducible repeat (first | apply Kd.R_alloc | apply Kd.R_drewN | apply Kd.R_drew)); exact HO195.out) (Kd.R_base ho0) hb)
    have n1_ := Aside0.mk (Kd.R_lower (Kd.R_new' ho0 (Kd.R_lt (by (with_reducible repeat (first | apply Kd.R_alloc | apply Kd.R_drewN | apply Kd.R_drew)); exact HO195.out))) (below_size (by repeat (first | (with_reducible first | exact HB.out | apply below_alloc | apply pw_below_drewN | apply below_drew1 | refine below_set ?_ GE191.out) | exact HB.out))))
    have n2_ := Aside0.mk (blk_below (g := gb191) (o := .cells #[.string a1_0, .string a1_1, .slice A1_2 l1_2.length c1_2, .slice A1_3 l1_3.length c1_3] 26 (0, 0)) (by (with_reducible repeat (first | refine blk_drewN ?_ _ | refine blk_drew ?_ | refine blk_alloc ?_ _)); exact BK191.out) hb)
    have n3_ := Aside0.mk (below_step (by repeat (first | (with_reducible first | exact HB.out | apply below_alloc | apply pw_below_drewN | apply below_drew1 | refine below_set ?_ GE191.out) | exact HB.out)) hb)
    clear HO195
    clear BK191
    clear HB
    have HO195 := n0_
    have HO198 := n1_
    have BK191 := n2_
    have HB := n3_
    clear n0_ n1_ n2_ n3_
    (try clear hb)
    (try clear hb2)
    (try clear hk)
    (try clear hi)
    (try clear ho0)
    refine hK.out _ _ ⟨(blk_cell BK191.out 0).trans rfl, (blk_cell BK191.out 1).trans rfl, (blk_cell BK191.out 2).trans rfl, (blk_cell BK191.out 3).trans rfl⟩ (fun hHeld => ?_)
    clear hK K
    refine norm_ (a' := ?_) ?_ ?_
    rotate_left
    · show Act.put _ (some 21) _ = _
      simp only [Act.put, List.setIfInBounds_toArray, List.set_cons_zero, List.set_cons_succ, i64_w, i32_w]
      rfl
    refine pure_ (i := 7) (N := some 7) (v := ?_) (a' := ?_) #[true, true, true, true, true, true, true, true] rfl rfl (any_of HT_.out (by kernel_rfl)) (fun _ _ _ h => h) (Or.inl ⟨by rfl, ?_⟩) ?_ ?_
    rotate_left
    · intro w'
      go_simp
      with_reducible rfl
    rotate_left
    · simp only [Act.put, List.setIfInBounds_toArray, List.set_cons_zero, List.set_cons_succ, i64_w, i32_w]
      rfl
    refine done_ (done_of HT_.out (by kernel_rfl)) ?_
    have hcz15_0 : w14.cell? ⟨gb191, 0, none⟩ = some (.string a1_0) := (blk_cell BK191.out 0).trans rfl
    have hcz15_1 : w14.cell? ⟨gb191, 1, none⟩ = some (.string a1_1) := (blk_cell BK191.out 1).trans rfl
    have hcz15_2 : w14.cell? ⟨gb191, 2, none⟩ = some (.slice A1_2 l1_2.length c1_2) := (blk_cell BK191.out 2).trans rfl
    have hcz15_3 : w14.cell? ⟨gb191, 3, none⟩ = some (.slice A1_3 l1_3.length c1_3) := (blk_cell BK191.out 3).trans rfl
    have hfz15_0 := blk_frozen BK191.out 0
    have hfz15_1 := blk_frozen BK191.out 1
    have hfz15_2 := blk_frozen BK191.out 2
    have hfz15_3 := blk_frozen BK191.out 3
    obtain ⟨Ao16, co16, eo16⟩ := Kd.R_slice HO198.out
    subst eo16
    try go_wp2_with (first | ((with_reducible refine gate_callee (f := 14) rfl ?_); refine goesL_ (some 26) rfl rfl Try.func14 (by kernel_rfl) rfl #[.slice Ao16 t196.length co16, .int .i64 (l1_2.length : Int)] rfl (by (try simp only [List.map_toArray, List.map_cons, List.map_nil]); first | done | rfl | (simp only [List.length_drop, List.length_take]; rfl)) ?_; (with_reducible refine (registrarref01_Put.calls _ _ t196 (l1_2.length : Int) t199 _ ?side1 ?side2 A7.out).mono ?_); (case side1 => repeat (first | exact (Kd.R_reads' HO198.out).2.2 | (with_reducible refine Kd.C_alloc ?_ _) | (with_reducible refine Kd.C_drewN ?_ _) | (with_reducible refine Kd.C_drew ?_))); (case side2 => exact (Kd.R_reads' HO198.out).2.1); rintro e w17 ⟨v200, rfl, ho0, hb⟩; refine ⟨_, rfl, ?_⟩; have n0_ := Aside0.mk (Kd.R_elder' (by (with_reducible repeat (first | apply Kd.R_alloc | apply Kd.R_drewN | apply Kd.R_drew)); exact HO195.out) (Kd.R_base ho0) hb); have n1_ := Aside0.mk (Kd.R_elder' (by (with_reducible repeat (first | apply Kd.R_alloc | apply Kd.R_drewN | apply Kd.R_drew)); exact HO198.out) (Kd.R_base ho0) hb); have n2_ := Aside0.mk (Kd.R_lower (Kd.R_new' (Kd.R_new' ho0 (Kd.R_lt (by (with_reducible repeat (first | apply Kd.R_alloc | apply Kd.R_drewN | apply Kd.R_drew)); exact HO195.out))) (Kd.R_lt (by (with_reducible repeat (first | apply Kd.R_alloc | apply Kd.R_drewN | apply Kd.R_drew)); exact HO198.out))) (below_size (by repeat (first | (with_reducible first | exact HB.out | apply below_alloc | apply pw_below_drewN | apply below_drew1 | refine below_set ?_ GE191.out) | exact HB.out)))); have n3_ := Aside0.mk (blk_below (g := gb191) (o := .cells #[.string a1_0, .string a1_1, .slice A1_2 l1_2.length c1_2, .slice A1_3 l1_3.length c1_3] 26 (0, 0)) (by (with_reducible repeat (first | refine blk_drewN ?_ _ | refine blk_drew ?_ | refine blk_alloc ?_ _)); exact BK191.out) hb); have n4_ := Aside0.mk (below_step (by repeat (first | (with_reducible first | exact HB.out | apply below_alloc | apply pw_below_drewN | apply below_drew1 | refine below_set ?_ GE191.out) | exact HB.out)) hb); clear HO195; clear HO198; clear BK191; clear HB; have HO195 := n0_; have HO198 := n1_; have HO201 := n2_; have BK191 := n3_; have HB := n4_; clear n0_ n1_ n2_ n3_ n4_; (try clear hb); (try clear hb2); (try clear hk); (try clear hi); (try clear ho0)))
    go_loopg [7, 8] k (fun kq v7 v8 w' => ∃ (x7_1 : List Int) (x8_1 : Int), v8 = .int .i64 x8_1 ∧ Aside0 (registrarref05_Put.l0 kq x7_1 x8_1 a1_0 a1_1 l1_2 l1_3 = some (r1, r2)) ∧ Aside0 (kq ≤ k) ∧ Aside0 (Kd.R (Kd.int .u8) 5 w' w.heap.size (fun _ => True) v7 x7_1) ∧ Aside0 (w'.heap[gb191]? = some (.cells #[.string a1_0, .string a1_1, (.slice A1_2 l1_2.length c1_2), (.slice A1_3 l1_3.length c1_3)] 26 (0, 0))) ∧ Aside0 (Below w.heap.size w w'))
    case atStart => exact ⟨(t199), (0), (by first | rfl | (simp; done) | (simp [*]; done)), H', ⟨Nat.le_refl _⟩, ⟨by (with_reducible repeat (first | apply Kd.R_alloc | apply Kd.R_drewN | apply Kd.R_drew)); exact Kd.R_mono HO201.out (fun _ hk => trivial)⟩, ⟨by (with_reducible repeat (first | refine blk_drewN ?_ _ | refine blk_drew ?_ | refine blk_alloc ?_ _)); exact BK191.out⟩, ⟨by repeat (first | (with_reducible first | exact HB.out | apply below_alloc | apply pw_below_drewN | apply below_drew1 | refine below_set ?_ GE191.out) | exact HB.out)⟩⟩
    case round =>
      clear H'
      try clear c1
      try clear c2
      try clear p2
      try clear c4
      try clear c4b0
      try clear c4b1
      try clear c12
      try clear c14
      try clear hcz15_0
      try clear hcz15_1
      try clear hcz15_2
      try clear hcz15_3
      try clear hcz9_0
      try clear hcz9_1
      try clear hcz9_2
      try clear hcz9_3
      try clear hfz15_0
      try clear hfz15_1
      try clear hfz15_2
      try clear hfz15_3
      try clear hfz9_0
      try clear hfz9_1
      try clear hfz9_2
      try clear hfz9_3
      obtain ⟨x7_1, x8_1, rfl, HA, HK1, HO_7, BK191, HB⟩ := hrel
      cases gk with
      | zero => exact absurd HA.out (by simp [registrarref05_Put.l0])
      | succ k1 =>
        have H := HA.out
        clear HA
        simp only [registrarref05_Put.l0] at H
        by_cases c18 : x8_1 < (l1_2.length : Int)
        · rw [if_pos c18] at H
          have c18b0 : decide (x8_1 < (l1_2.length : Int)) = true := decide_eq_true c18
          clear c18
          by_cases c19 : 0 ≤ x8_1
          · rw [if_pos c19] at H
            have c19b0 : decide (0 ≤ x8_1) = true := decide_eq_true c19
            clear c19
            replace H := Option.bind_eq_some_iff.mp H
            obtain ⟨t203, A200, H⟩ := H
            replace H : (registrarref05_Put.l0 k1 t203 (wrap64 (x8_1 + 1)) a1_0 a1_1 l1_2 l1_3) = some (r1, r2) := H
            have A20 := Aside0.mk A200
            clear A200
            have H' := Aside0.mk H
            clear H
            have hcz21_0 : wr.cell? ⟨gb191, 0, none⟩ = some (.string a1_0) := (blk_cell BK191.out 0).trans rfl
            have hcz21_1 : wr.cell? ⟨gb191, 1, none⟩ = some (.string a1_1) := (blk_cell BK191.out 1).trans rfl
            have hcz21_2 : wr.cell? ⟨gb191, 2, none⟩ = some (.slice A1_2 l1_2.length c1_2) := (blk_cell BK191.out 2).trans rfl
            have hcz21_3 : wr.cell? ⟨gb191, 3, none⟩ = some (.slice A1_3 l1_3.length c1_3) := (blk_cell BK191.out 3).trans rfl
            have hfz21_0 := blk_frozen BK191.out 0
            have hfz21_1 := blk_frozen BK191.out 1
            have hfz21_2 := blk_frozen BK191.out 2
            have hfz21_3 := blk_frozen BK191.out 3
            have p202 : 0 ≤ (x8_1 : Int) := of_decide_eq_true (by first | (with_reducible assumption) | assumption)
            have q202 : x8_1 < (l1_2.length : Int) := of_decide_eq_true (by first | (with_reducible assumption) | assumption)
            obtain ⟨ad202, e202, hx202_0⟩ := Kd.at_string HR1_2.out x8_1 p202 q202
            cases e202
            replace hx202_0 := (HB.out.cell (World.block_lt_of_cell? w _ hx202_0)).trans hx202_0
            replace p202 := eq_true p202
            replace q202 := eq_true q202
            obtain ⟨Ao22, co22, eo22⟩ := Kd.R_slice HO_7.out
            subst eo22
            go_wp2_with (first | ((with_reducible refine gate_callee (f := 26) rfl ?_); refine goesL_ (some 40) rfl rfl Try.func26 (by kernel_rfl) rfl #[.slice Ao22 x7_1.length co22, .string (rdOf ByteArray.empty l1_2 x8_1)] rfl (by (try simp only [List.map_toArray, List.map_cons, List.map_nil]); first | done | rfl | (simp only [List.length_drop, List.length_take]; rfl)) ?_; (with_reducible refine (registrarref01_PutText.calls _ _ x7_1 (rdOf ByteArray.empty l1_2 x8_1) t203 _ ?side1 ?side2 A20.out).mono ?_); (case side1 => repeat (first | exact (Kd.R_reads' HO_7.out).2.2 | (with_reducible refine Kd.C_alloc ?_ _) | (with_reducible refine Kd.C_drewN ?_ _) | (with_reducible refine Kd.C_drew ?_))); (case side2 => exact (Kd.R_reads' HO_7.out).2.1); rintro e w23 ⟨v204, rfl, ho0, hb⟩; refine ⟨_, rfl, ?_⟩; have n0_ := Aside0.mk (Kd.R_elder' (by (with_reducible repeat (first | apply Kd.R_alloc | apply Kd.R_drewN | apply Kd.R_drew)); exact HO_7.out) (Kd.R_base ho0) hb); have n1_ := Aside0.mk (Kd.R_lower (Kd.R_new' ho0 (Kd.R_lt (by (with_reducible repeat (first | apply Kd.R_alloc | apply Kd.R_drewN | apply Kd.R_drew)); exact HO_7.out))) (below_size (by repeat (first | (with_reducible first | exact HB.out | apply below_alloc | apply pw_below_drewN | apply below_drew1 | refine below_set ?_ GE191.out) | exact HB.out)))); have n2_ := Aside0.mk (blk_below (g := gb191) (o := .cells #[.string a1_0, .string a1_1, .slice (some ad202) l1_2.length c1_2, .slice A1_3 l1_3.length c1_3] 26 (0, 0)) (by (with_reducible repeat (first | refine blk_drewN ?_ _ | refine blk_drew ?_ | refine blk_alloc ?_ _)); exact BK191.out) hb); have n3_ := Aside0.mk (below_step (by repeat (first | (with_reducible first | exact HB.out | apply below_alloc | apply pw_below_drewN | apply below_drew1 | refine below_set ?_ GE191.out) | exact HB.out)) hb); clear HO_7; clear BK191; clear HB; have HO_7 := n0_; have HO205 := n1_; have BK191 := n2_; have HB := n3_; clear n0_ n1_ n2_ n3_; (try clear hb); (try clear hb2); (try clear hk); (try clear hi); (try clear ho0)))
            go_roundg k1
            case measure => have := HK1.out; omega
            case rel => exact ⟨(t203), (wrap64 (x8_1 + 1)), (by first | rfl | (simp; done) | (simp [*]; done)), H', ⟨by have := HK1.out; omega⟩, ⟨by (with_reducible repeat (first | apply Kd.R_alloc | apply Kd.R_drewN | apply Kd.R_drew)); exact Kd.R_mono HO205.out (fun _ hk => trivial)⟩, ⟨by (with_reducible repeat (first | refine blk_drewN ?_ _ | refine blk_drew ?_ | refine blk_alloc ?_ _)); exact BK191.out⟩, ⟨by repeat (first | (with_reducible first | exact HB.out | apply below_alloc | apply pw_below_drewN | apply below_drew1 | refine below_set ?_ GE191.out) | exact HB.out)⟩⟩
          · rw [if_neg c19] at H
            exact absurd H (by simp)
        · rw [if_neg c18] at H
          have c18b0 : decide (x8_1 < (l1_2.length : Int)) = false := decide_eq_false c18
          clear c18
          replace H := Option.bind_eq_some_iff.mp H
          obtain ⟨t206, A240, H⟩ := H
          replace H : (registrarref05_Put.l1 k1 t206 0 a1_0 a1_1 l1_2 l1_3) = some (r1, r2) := H
          have A24 := Aside0.mk A240
          clear A240
          have H' := Aside0.mk H
          clear H
          have hcz25_0 : wr.cell? ⟨gb191, 0, none⟩ = some (.string a1_0) := (blk_cell BK191.out 0).trans rfl
          have hcz25_1 : wr.cell? ⟨gb191, 1, none⟩ = some (.string a1_1) := (blk_cell BK191.out 1).trans rfl
          have hcz25_2 : wr.cell? ⟨gb191, 2, none⟩ = some (.slice A1_2 l1_2.length c1_2) := (blk_cell BK191.out 2).trans rfl
          have hcz25_3 : wr.cell? ⟨gb191, 3, none⟩ = some (.slice A1_3 l1_3.length c1_3) := (blk_cell BK191.out 3).trans rfl
          have hfz25_0 := blk_frozen BK191.out 0
          have hfz25_1 := blk_frozen BK191.out 1
          have hfz25_2 := blk_frozen BK191.out 2
          have hfz25_3 := blk_frozen BK191.out 3
          obtain ⟨Ao26, co26, eo26⟩ := Kd.R_slice HO_7.out
          subst eo26
          go_wp2_with (first | ((with_reducible refine gate_callee (f := 14) rfl ?_); refine goesL_ (some 45) rfl rfl Try.func14 (by kernel_rfl) rfl #[.slice Ao26 x7_1.length co26, .int .i64 (l1_3.length : Int)] rfl (by (try simp only [List.map_toArray, List.map_cons, List.map_nil]); first | done | rfl | (simp only [List.length_drop, List.length_take]; rfl)) ?_; (with_reducible refine (registrarref01_Put.calls _ _ x7_1 (l1_3.length : Int) t206 _ ?side1 ?side2 A24.out).mono ?_); (case side1 => repeat (first | exact (Kd.R_reads' HO_7.out).2.2 | (with_reducible refine Kd.C_alloc ?_ _) | (with_reducible refine Kd.C_drewN ?_ _) | (with_reducible refine Kd.C_drew ?_))); (case side2 => exact (Kd.R_reads' HO_7.out).2.1); rintro e w27 ⟨v207, rfl, ho0, hb⟩; refine ⟨_, rfl, ?_⟩; have n0_ := Aside0.mk (Kd.R_elder' (by (with_reducible repeat (first | apply Kd.R_alloc | apply Kd.R_drewN | apply Kd.R_drew)); exact HO_7.out) (Kd.R_base ho0) hb); have n1_ := Aside0.mk (Kd.R_lower (Kd.R_new' ho0 (Kd.R_lt (by (with_reducible repeat (first | apply Kd.R_alloc | apply Kd.R_drewN | apply Kd.R_drew)); exact HO_7.out))) (below_size (by repeat (first | (with_reducible first | exact HB.out | apply below_alloc | apply pw_below_drewN | apply below_drew1 | refine below_set ?_ GE191.out) | exact HB.out)))); have n2_ := Aside0.mk (blk_below (g := gb191) (o := .cells #[.string a1_0, .string a1_1, .slice A1_2 l1_2.length c1_2, .slice A1_3 l1_3.length c1_3] 26 (0, 0)) (by (with_reducible repeat (first | refine blk_drewN ?_ _ | refine blk_drew ?_ | refine blk_alloc ?_ _)); exact BK191.out) hb); have n3_ := Aside0.mk (below_step (by repeat (first | (with_reducible first | exact HB.out | apply below_alloc | apply pw_below_drewN | apply below_drew1 | refine below_set ?_ GE191.out) | exact HB.out)) hb); clear HO_7; clear BK191; clear HB; have HO_7 := n0_; have HO208 := n1_; have BK191 := n2_; have HB := n3_; clear n0_ n1_ n2_ n3_; (try clear hb); (try clear hb2); (try clear hk); (try clear hi); (try clear ho0)))
          go_loopg [7, 9] k1 (fun kq v7 v9 w' => ∃ (x7_2 : List Int) (x9_2 : Int), v9 = .int .i64 x9_2 ∧ Aside0 (registrarref05_Put.l1 kq x7_2 x9_2 a1_0 a1_1 l1_2 l1_3 = some (r1, r2)) ∧ Aside0 (kq ≤ k1) ∧ Aside0 (Kd.R (Kd.int .u8) 5 w' w.heap.size (fun _ => True) v7 x7_2) ∧ Aside0 (w'.heap[gb191]? = some (.cells #[.string a1_0, .string a1_1, (.slice A1_2 l1_2.length c1_2), (.slice A1_3 l1_3.length c1_3)] 26 (0, 0))) ∧ Aside0 (Below w.heap.size w w'))
          case atStart => exact ⟨(t206), (0), (by first | rfl | (simp; done) | (simp [*]; done)), H', ⟨Nat.le_refl _⟩, ⟨by (with_reducible repeat (first | apply Kd.R_alloc | apply Kd.R_drewN | apply Kd.R_drew)); exact Kd.R_mono HO208.out (fun _ hk => trivial)⟩, ⟨by (with_reducible repeat (first | refine blk_drewN ?_ _ | refine blk_drew ?_ | refine blk_alloc ?_ _)); exact BK191.out⟩, ⟨by repeat (first | (with_reducible first | exact HB.out | apply below_alloc | apply pw_below_drewN | apply below_drew1 | refine below_set ?_ GE191.out) | exact HB.out)⟩⟩
          case round =>
            clear H'
            try clear c1
            try clear c2
            try clear p2
            try clear q2
            try clear hx2
            try clear c4
            try clear c4b0
            try clear c4b1
            try clear p6
            try clear c12
            try clear c14
            try clear c18
            try clear c18b0
            try clear c19
            try clear c19b0
            try clear p20
            try clear q20
            try clear hx20
            try clear c25
            try clear c26
            try clear hcz15_0
            try clear hcz15_1
            try clear hcz15_2
            try clear hcz15_3
            try clear hcz21_0
            try clear hcz21_1
            try clear hcz21_2
            try clear hcz21_3
            try clear hcz25_0
            try clear hcz25_1
            try clear hcz25_2
            try clear hcz25_3
            try clear hcz9_0
            try clear hcz9_1
            try clear hcz9_2
            try clear hcz9_3
            try clear hfz15_0
            try clear hfz15_1
            try clear hfz15_2
            try clear hfz15_3
            try clear hfz21_0
            try clear hfz21_1
            try clear hfz21_2
            try clear hfz21_3
            try clear hfz25_0
            try clear hfz25_1
            try clear hfz25_2
            try clear hfz25_3
            try clear hfz9_0
            try clear hfz9_1
            try clear hfz9_2
            try clear hfz9_3
            try clear hx202_0
            try clear p2
            try clear p202
            try clear q202
            obtain ⟨x7_2, x9_2, rfl, HA, HK2, HO_7, BK191, HB⟩ := hrel
            cases gk with
            | zero => exact absurd HA.out (by simp [registrarref05_Put.l1])
            | succ k2 =>
              have H := HA.out
              clear HA
              simp only [registrarref05_Put.l1] at H
              by_cases c28 : x9_2 < (l1_3.length : Int)
              · rw [if_pos c28] at H
                have c28b0 : decide (x9_2 < (l1_3.length : Int)) = true := decide_eq_true c28
                clear c28
                by_cases c29 : 0 ≤ x9_2
                · rw [if_pos c29] at H
                  have c29b0 : decide (0 ≤ x9_2) = true := decide_eq_true c29
                  clear c29
                  replace H := Option.bind_eq_some_iff.mp H
                  obtain ⟨t210, A300, H⟩ := H
                  replace H : ((registrarref01_Put.f t210 ((rd_T35 l1_3 x9_2).f1)).bind fun t214 => (registrarref05_Put.l1 k2 t214 (wrap64 (x9_2 + 1)) a1_0 a1_1 l1_2 l1_3)) = some (r1, r2) := H
                  have A30 := Aside0.mk A300
                  clear A300
                  replace H := Option.bind_eq_some_iff.mp H
                  obtain ⟨t214, A310, H⟩ := H
                  replace H : (registrarref05_Put.l1 k2 t214 (wrap64 (x9_2 + 1)) a1_0 a1_1 l1_2 l1_3) = some (r1, r2) := H
                  have A31 := Aside0.mk A310
                  clear A310
                  have H' := Aside0.mk H
                  clear H
                  have hcz32_0 : wr.cell? ⟨gb191, 0, none⟩ = some (.string a1_0) := (blk_cell BK191.out 0).trans rfl
                  have hcz32_1 : wr.cell? ⟨gb191, 1, none⟩ = some (.string a1_1) := (blk_cell BK191.out 1).trans rfl
                  have hcz32_2 : wr.cell? ⟨gb191, 2, none⟩ = some (.slice A1_2 l1_2.length c1_2) := (blk_cell BK191.out 2).trans rfl
                  have hcz32_3 : wr.cell? ⟨gb191, 3, none⟩ = some (.slice A1_3 l1_3.length c1_3) := (blk_cell BK191.out 3).trans rfl
                  have hfz32_0 := blk_frozen BK191.out 0
                  have hfz32_1 := blk_frozen BK191.out 1
                  have hfz32_2 := blk_frozen BK191.out 2
                  have hfz32_3 := blk_frozen BK191.out 3
                  try go_wp2
                  have n0_ := Aside0.mk (Kd.R_drew HO_7.out)
                  have n1_ := Aside0.mk (blk_drew BK191.out)
                  have n2_ := Aside0.mk (below_drew1 HB.out)
                  clear HO_7
                  clear BK191
                  clear HB
                  have HO_7 := n0_
                  have BK191 := n1_
                  have HB := n2_
                  clear n0_ n1_ n2_
                  have p209 : 0 ≤ (x9_2 : Int) := of_decide_eq_true (by first | (with_reducible assumption) | assumption)
                  have q209 : x9_2 < (l1_3.length : Int) := of_decide_eq_true (by first | (with_reducible assumption) | assumption)
                  obtain ⟨ad209, e209, hx209_0, hx209_1⟩ := at_T35 HR1_3.out x9_2 p209 q209
                  have hw209_1 := hx209_1
                  have hw209_0 := hx209_0
                  cases e209
                  replace hx209_0 := (HB.out.cell (World.block_lt_of_cell? w _ hx209_0)).trans hx209_0
                  replace hx209_1 := (HB.out.cell (World.block_lt_of_cell? w _ hx209_1)).trans hx209_1
                  replace p209 := eq_true p209
                  replace q209 := eq_true q209
                  have p213 : 0 ≤ (x9_2 : Int) := of_decide_eq_true (by first | (with_reducible assumption) | assumption)
                  have q213 : x9_2 < (l1_3.length : Int) := of_decide_eq_true (by first | (with_reducible assumption) | assumption)
                  obtain ⟨ad213, e213, hx213_0, hx213_1⟩ := at_T35 HR1_3.out x9_2 p213 q213
                  have hw213_1 := hx213_1
                  have hw213_0 := hx213_0
                  obtain rfl : ad209 = ad213 := (by injection e213)
                  replace hx213_0 := (HB.out.cell (World.block_lt_of_cell? w _ hx213_0)).trans hx213_0
                  replace hx213_1 := (HB.out.cell (World.block_lt_of_cell? w _ hx213_1)).trans hx213_1
                  replace p213 := eq_true p213
                  replace q213 := eq_true q213
                  obtain ⟨Ao34, co34, eo34⟩ := Kd.R_slice HO_7.out
                  (first | subst eo34 | (injection eo34 with f1_ f2_ f3_; have f4_ := f1_.symm; have f5_ := f3_.symm; clear f1_ f2_ f3_; subst f4_; subst f5_))
                  refine start_ (n := 16) (S := fun w' => w'.cell? ⟨gb191, 0, none⟩ = some (.string a1_0) ∧ w'.cell? ⟨gb191, 1, none⟩ = some (.string a1_1) ∧ w'.cell? ⟨gb191, 2, none⟩ = some (.slice A1_2 l1_2.length c1_2) ∧ w'.cell? ⟨gb191, 3, none⟩ = some (.slice (some ad209) l1_3.length c1_3) ∧ w'.cell? (ad209.add ((x9_2).toNat * 2)) = some (.string ((rd_T35 l1_3 x9_2).f0)) ∧ w'.cell? ⟨(ad209.add ((x9_2).toNat * 2)).block, (ad209.add ((x9_2).toNat * 2)).off + 1, none⟩ = some (.int .i64 ((rd_T35 l1_3 x9_2).f1)) ∧ w'.cell? (ad209.add ((x9_2).toNat * 2)) = some (.string ((rd_T35 l1_3 x9_2).f0)) ∧ w'.cell? ⟨(ad209.add ((x9_2).toNat * 2)).block, (ad209.add ((x9_2).toNat * 2)).off + 1, none⟩ = some (.int .i64 ((rd_T35 l1_3 x9_2).f1))) (ds := []) #[false, false, false, false, false, false, false, false, false, false, false, false, false, false, false, false] (by kernel_rfl) rfl rfl ⟨(blk_cell BK191.out 0).trans rfl, (blk_cell BK191.out 1).trans rfl, (blk_cell BK191.out 2).trans rfl, (blk_cell BK191.out 3).trans rfl, ((HB.out.cell (World.block_lt_of_cell? w _ hw209_0)).trans hw209_0), ((HB.out.cell (World.block_lt_of_cell? w _ hw209_1)).trans hw209_1), ((HB.out.cell (World.block_lt_of_cell? w _ hw213_0)).trans hw213_0), ((HB.out.cell (World.block_lt_of_cell? w _ hw213_1)).trans hw213_1)⟩ (fun hHeld => ?_); refine with_tabW registrarref05_Put.tab14 registrarref05_Put.bits14 (fun HT_ HW_ => ?_)
                  generalize wr.drew = w33 at HO_7 BK191 HB hx209_0 hx209_1 hx213_0 hx213_1 hHeld ⊢
                  refine pure_ (i := 0) (N := some 53) (v := ?_) (a' := ?_) #[true, false, false, false, false, false, false, false, false, false, false, false, false, false, false, false] rfl rfl (any_of HT_.out (by kernel_rfl)) (fun _ _ _ h => h) (Or.inl ⟨by rfl, ?_⟩) ?_ ?_
                  rotate_left
                  · intro w'
                    go_simp
                    with_reducible rfl
                  rotate_left
                  · simp only [Act.put, List.setIfInBounds_toArray, List.set_cons_zero, List.set_cons_succ, i64_w, i32_w]
                    rfl
                  refine pure_ (i := 1) (N := some 54) (v := ?_) (a' := ?_) #[true, true, false, false, false, false, false, false, false, false, false, false, false, false, false, false] rfl rfl (any_of HT_.out (by kernel_rfl)) (fun _ _ _ h => h) (Or.inl ⟨by rfl, ?_⟩) ?_ ?_
                  rotate_left
                  · intro w'
                    go_simp
                    with_reducible rfl
                  rotate_left
                  · simp only [Act.put, List.setIfInBounds_toArray, List.set_cons_zero, List.set_cons_succ, i64_w, i32_w]
                    rfl
                  refine pure_ (i := 3) (N := some 56) (v := ?_) (a' := ?_) #[true, true, false, true, false, false, false, false, false, false, false, false, false, false, false, false] rfl rfl (any_of HT_.out (by kernel_rfl)) (fun _ _ _ h => h) (Or.inl ⟨by rfl, ?_⟩) ?_ ?_
                  rotate_left
                  · intro w'
                    go_simp
                    with_reducible rfl
                  rotate_left
                  · simp only [Act.put, List.setIfInBounds_toArray, List.set_cons_zero, List.set_cons_succ, i64_w, i32_w]
                    rfl
                  refine pure_ (i := 8) (N := some 61) (v := ?_) (a' := ?_) #[true, true, false, true, false, false, false, false, true, false, false, false, false, false, false, false] rfl rfl (any_of HT_.out (by kernel_rfl)) (fun _ _ _ h => h) (Or.inl ⟨by rfl, ?_⟩) ?_ ?_
                  rotate_left
                  · intro w'
                    go_simp
                    with_reducible rfl
                  rotate_left
                  · simp only [Act.put, List.setIfInBounds_toArray, List.set_cons_zero, List.set_cons_succ, i64_w, i32_w]
                    rfl
                  refine pure_ (i := 10) (N := some 63) (v := ?_) (a' := ?_) #[true, true, false, true, false, false, false, false, true, false, true, false, false, false, false, false] rfl rfl (any_of HT_.out (by kernel_rfl)) (fun _ _ _ h => h) (Or.inl ⟨by rfl, ?_⟩) ?_ ?_
                  rotate_left
                  · intro w'
                    go_simp
                    with_reducible rfl
                  rotate_left
                  · simp only [Act.put, List.setIfInBounds_toArray, List.set_cons_zero, List.set_cons_succ, i64_w, i32_w]
                    rfl
                  refine take_ (i := 2) (N := some 55) (v := ?_) (a' := ?_) #[true, true, true, true, false, false, false, false, true, false, true, false, false, false, false, false] rfl rfl (take_ofW HT_.out HW_.out (by kernel_rfl)) (fun _ _ _ h => h) (Or.inl ⟨by rfl, ?_⟩) hHeld ?_ ?_
                  rotate_left
                  · rintro w' ⟨s0, s1, s2, s3, s4, s5, s6, s7⟩
                    go_simp
                    with_reducible rfl
                  rotate_left
                  · simp only [Act.put, List.setIfInBounds_toArray, List.set_cons_zero, List.set_cons_succ, i64_w, i32_w]
                    rfl
                  refine pure_ (i := 4) (N := some 57) (v := ?_) (a' := ?_) #[true, true, true, true, true, false, false, false, true, false, true, false, false, false, false, false] rfl rfl (any_of HT_.out (by kernel_rfl)) (fun _ _ _ h => h) (Or.inl ⟨by rfl, ?_⟩) ?_ ?_
                  rotate_left
                  · intro w'
                    go_simp
                    with_reducible rfl
                  rotate_left
                  · simp only [Act.put, List.setIfInBounds_toArray, List.set_cons_zero, List.set_cons_succ, i64_w, i32_w]
                    rfl
                  refine pure_ (i := 5) (N := some 58) (v := ?_) (a' := ?_) #[true, true, true, true, true, true, false, false, true, false, true, false, false, false, false, false] rfl rfl (any_of HT_.out (by kernel_rfl)) (fun _ _ _ h => h) (Or.inl ⟨by rfl, ?_⟩) ?_ ?_
                  rotate_left
                  · intro w'
                    go_simp
                    with_reducible rfl
                  rotate_left
                  · simp only [Act.put, List.setIfInBounds_toArray, List.set_cons_zero, List.set_cons_succ, i64_w, i32_w]
                    rfl
                  refine take_ (i := 6) (N := some 59) (v := ?_) (a' := ?_) #[true, true, true, true, true, true, true, false, true, false, true, false, false, false, false, false] rfl rfl (take_ofW HT_.out HW_.out (by kernel_rfl)) (fun _ _ _ h => h) (Or.inl ⟨by rfl, ?_⟩) hHeld ?_ ?_
                  rotate_left
                  · rintro w' ⟨s0, s1, s2, s3, s4, s5, s6, s7⟩
                    go_simp
                    with_reducible rfl
                  rotate_left
                  · simp only [Act.put, List.setIfInBounds_toArray, List.set_cons_zero, List.set_cons_succ, i64_w, i32_w]
                    rfl
                  refine take_ (i := 9) (N := some 62) (v := ?_) (a' := ?_) #[true, true, true, true, true, true, true, false, true, true, true, false, false, false, false, false] rfl rfl (take_ofW HT_.out HW_.out (by kernel_rfl)) (fun _ _ _ h => h) (Or.inl ⟨by rfl, ?_⟩) hHeld ?_ ?_
                  rotate_left
                  · rintro w' ⟨s0, s1, s2, s3, s4, s5, s6, s7⟩
                    go_simp
                    with_reducible rfl
                  rotate_left
                  · simp only [Act.put, List.setIfInBounds_toArray, List.set_cons_zero, List.set_cons_succ, i64_w, i32_w]
                    rfl
                  refine pure_ (i := 11) (N := some 64) (v := ?_) (a' := ?_) #[true, true, true, true, true, true, true, false, true, true, true, true, false, false, false, false] rfl rfl (any_of HT_.out (by kernel_rfl)) (fun _ _ _ h => h) (Or.inl ⟨by rfl, ?_⟩) ?_ ?_
                  rotate_left
                  · intro w'
                    go_simp
                    with_reducible rfl
                  rotate_left
                  · simp only [Act.put, List.setIfInBounds_toArray, List.set_cons_zero, List.set_cons_succ, i64_w, i32_w]
                    rfl
                  refine pure_ (i := 12) (N := some 65) (v := ?_) (a' := ?_) #[true, true, true, true, true, true, true, false, true, true, true, true, true, false, false, false] rfl rfl (any_of HT_.out (by kernel_rfl)) (fun _ _ _ h => h) (Or.inl ⟨by rfl, ?_⟩) ?_ ?_
                  rotate_left
                  · intro w'
                    go_simp
                    with_reducible rfl
                  rotate_left
                  · simp only [Act.put, List.setIfInBounds_toArray, List.set_cons_zero, List.set_cons_succ, i64_w, i32_w]
                    rfl
                  refine take_ (i := 13) (N := some 66) (v := ?_) (a' := ?_) #[true, true, true, true, true, true, true, false, true, true, true, true, true, true, false, false] rfl rfl (take_ofW HT_.out HW_.out (by kernel_rfl)) (fun _ _ _ h => h) (Or.inl ⟨by rfl, ?_⟩) hHeld ?_ ?_
                  rotate_left
                  · rintro w' ⟨s0, s1, s2, s3, s4, s5, s6, s7⟩
                    go_simp
                    with_reducible rfl
                  rotate_left
                  · simp only [Act.put, List.setIfInBounds_toArray, List.set_cons_zero, List.set_cons_succ, i64_w, i32_w]
                    rfl
                  refine one_ (i := 7) (N := some 60) #[true, true, true, true, true, true, true, true, true, true, true, true, true, true, false, false] rfl rfl (one_of HT_.out (by kernel_rfl)) (by decide) (fun K hK => ?_)
                  refine goes_ Try.func26 (by kernel_rfl) rfl #[.slice Ao34 x7_2.length co34, .string ((rd_T35 l1_3 x9_2).f0)] (by rfl) rfl rfl (by (try simp only [List.map_toArray, List.map_cons, List.map_nil]); first | done | rfl | (simp only [List.length_drop, List.length_take]; rfl)) ?_
                  with_reducible refine (registrarref01_PutText.calls _ _ x7_2 ((rd_T35 l1_3 x9_2).f0) t210 _ ?side1 ?side2 A30.out).mono ?_
                  (case side1 => repeat (first | exact (Kd.R_reads' HO_7.out).2.2 | (with_reducible refine Kd.C_alloc ?_ _) | (with_reducible refine Kd.C_drewN ?_ _) | (with_reducible refine Kd.C_drew ?_)))
                  (case side2 => exact (Kd.R_reads' HO_7.out).2.1)
                  rintro e w35 ⟨v211, rfl, ho0, hb⟩
                  refine ⟨_, rfl, ?_⟩
                  have n0_ := Aside0.mk (Kd.R_elder' (by (with_reducible repeat (first | apply Kd.R_alloc | apply Kd.R_drewN | apply Kd.R_drew)); exact HO_7.out) (Kd.R_base ho0) hb)
                  have n1_ := Aside0.mk (Kd.R_lower (Kd.R_new' ho0 (Kd.R_lt (by (with_reducible repeat (first | apply Kd.R_alloc | apply Kd.R_drewN | apply Kd.R_drew)); exact HO_7.out))) (below_size (by repeat (first | (with_reducible first | exact HB.out | apply below_alloc | apply pw_below_drewN | apply below_drew1 | refine below_set ?_ GE191.out) | exact HB.out))))
                  have n2_ := Aside0.mk (blk_below (g := gb191) (o := .cells #[.string a1_0, .string a1_1, .slice A1_2 l1_2.length c1_2, .slice (some ad209) l1_3.length c1_3] 26 (0, 0)) (by (with_reducible repeat (first | refine blk_drewN ?_ _ | refine blk_drew ?_ | refine blk_alloc ?_ _)); exact BK191.out) hb)
                  have n3_ := Aside0.mk (below_step (by repeat (first | (with_reducible first | exact HB.out | apply below_alloc | apply pw_below_drewN | apply below_drew1 | refine below_set ?_ GE191.out) | exact HB.out)) hb)
                  clear HO_7
                  clear BK191
                  clear HB
                  have HO_7 := n0_
                  have HO212 := n1_
                  have BK191 := n2_
                  have HB := n3_
                  clear n0_ n1_ n2_ n3_
                  (try clear hb)
                  (try clear hb2)
                  (try clear hk)
                  (try clear hi)
                  (try clear ho0)
                  obtain ⟨Ao36, co36, eo36⟩ := Kd.R_slice HO212.out
                  (first | subst eo36 | (injection eo36 with f1_ f2_ f3_; have f4_ := f1_.symm; have f5_ := f3_.symm; clear f1_ f2_ f3_; subst f4_; subst f5_))
                  refine hK.out _ _ ⟨(blk_cell BK191.out 0).trans rfl, (blk_cell BK191.out 1).trans rfl, (blk_cell BK191.out 2).trans rfl, (blk_cell BK191.out 3).trans rfl, ((HB.out.cell (World.block_lt_of_cell? w _ hw209_0)).trans hw209_0), ((HB.out.cell (World.block_lt_of_cell? w _ hw209_1)).trans hw209_1), ((HB.out.cell (World.block_lt_of_cell? w _ hw213_0)).trans hw213_0), ((HB.out.cell (World.block_lt_of_cell? w _ hw213_1)).trans hw213_1)⟩ (fun hHeld => ?_)
                  clear hK K
                  refine norm_ (a' := ?_) ?_ ?_
                  rotate_left
                  · show Act.put _ (some 60) _ = _
                    simp only [Act.put, List.setIfInBounds_toArray, List.set_cons_zero, List.set_cons_succ, i64_w, i32_w]
                    rfl
                  refine one_ (i := 14) (N := some 67) #[true, true, true, true, true, true, true, true, true, true, true, true, true, true, true, false] rfl rfl (one_of HT_.out (by kernel_rfl)) (by decide) (fun K hK => ?_)
                  refine goes_ Try.func14 (by kernel_rfl) rfl #[.slice Ao36 t210.length co36, .int .i64 ((rd_T35 l1_3 x9_2).f1)] (by rfl) rfl rfl (by (try simp only [List.map_toArray, List.map_cons, List.map_nil]); first | done | rfl | (simp only [List.length_drop, List.length_take]; rfl)) ?_
                  with_reducible refine (registrarref01_Put.calls _ _ t210 ((rd_T35 l1_3 x9_2).f1) t214 _ ?side1 ?side2 A31.out).mono ?_
                  (case side1 => repeat (first | exact (Kd.R_reads' HO212.out).2.2 | (with_reducible refine Kd.C_alloc ?_ _) | (with_reducible refine Kd.C_drewN ?_ _) | (with_reducible refine Kd.C_drew ?_)))
                  (case side2 => exact (Kd.R_reads' HO212.out).2.1)
                  rintro e w37 ⟨v215, rfl, ho0, hb⟩
                  refine ⟨_, rfl, ?_⟩
                  have n0_ := Aside0.mk (Kd.R_elder' (by (with_reducible repeat (first | apply Kd.R_alloc | apply Kd.R_drewN | apply Kd.R_drew)); exact HO_7.out) (Kd.R_base ho0) hb)
                  have n1_ := Aside0.mk (Kd.R_elder' (by (with_reducible repeat (first | apply Kd.R_alloc | apply Kd.R_drewN | apply Kd.R_drew)); exact HO212.out) (Kd.R_base ho0) hb)
                  have n2_ := Aside0.mk (Kd.R_lower (Kd.R_new' (Kd.R_new' ho0 (Kd.R_lt (by (with_reducible repeat (first | apply Kd.R_alloc | apply Kd.R_drewN | apply Kd.R_drew)); exact HO_7.out))) (Kd.R_lt (by (with_reducible repeat (first | apply Kd.R_alloc | apply Kd.R_drewN | apply Kd.R_drew)); exact HO212.out))) (below_size (by repeat (first | (with_reducible first | exact HB.out | apply below_alloc | apply pw_below_drewN | apply below_drew1 | refine below_set ?_ GE191.out) | exact HB.out))))
                  have n3_ := Aside0.mk (blk_below (g := gb191) (o := .cells #[.string a1_0, .string a1_1, .slice A1_2 l1_2.length c1_2, .slice (some ad209) l1_3.length c1_3] 26 (0, 0)) (by (with_reducible repeat (first | refine blk_drewN ?_ _ | refine blk_drew ?_ | refine blk_alloc ?_ _)); exact BK191.out) hb)
                  have n4_ := Aside0.mk (below_step (by repeat (first | (with_reducible first | exact HB.out | apply below_alloc | apply pw_below_drewN | apply below_drew1 | refine below_set ?_ GE191.out) | exact HB.out)) hb)
                  clear HO_7
                  clear HO212
                  clear BK191
                  clear HB
                  have HO_7 := n0_
                  have HO212 := n1_
                  have HO216 := n2_
                  have BK191 := n3_
                  have HB := n4_
                  clear n0_ n1_ n2_ n3_ n4_
                  (try clear hb)
                  (try clear hb2)
                  (try clear hk)
                  (try clear hi)
                  (try clear ho0)
                  refine hK.out _ _ ⟨(blk_cell BK191.out 0).trans rfl, (blk_cell BK191.out 1).trans rfl, (blk_cell BK191.out 2).trans rfl, (blk_cell BK191.out 3).trans rfl, ((HB.out.cell (World.block_lt_of_cell? w _ hw209_0)).trans hw209_0), ((HB.out.cell (World.block_lt_of_cell? w _ hw209_1)).trans hw209_1), ((HB.out.cell (World.block_lt_of_cell? w _ hw213_0)).trans hw213_0), ((HB.out.cell (World.block_lt_of_cell? w _ hw213_1)).trans hw213_1)⟩ (fun hHeld => ?_)
                  clear hK K
                  refine norm_ (a' := ?_) ?_ ?_
                  rotate_left
                  · show Act.put _ (some 67) _ = _
                    simp only [Act.put, List.setIfInBounds_toArray, List.set_cons_zero, List.set_cons_succ, i64_w, i32_w]
                    rfl
                  refine pure_ (i := 15) (N := some 7) (v := ?_) (a' := ?_) #[true, true, true, true, true, true, true, true, true, true, true, true, true, true, true, true] rfl rfl (any_of HT_.out (by kernel_rfl)) (fun _ _ _ h => h) (Or.inl ⟨by rfl, ?_⟩) ?_ ?_
                  rotate_left
                  · intro w'
                    go_simp
                    with_reducible rfl
                  rotate_left
                  · simp only [Act.put, List.setIfInBounds_toArray, List.set_cons_zero, List.set_cons_succ, i64_w, i32_w]
                    rfl
                  refine done_ (done_of HT_.out (by kernel_rfl)) ?_
                  try go_wp2
                  go_roundg k2
                  case measure => have := HK1.out; have := HK2.out; omega
                  case rel => exact ⟨(t214), (wrap64 (x9_2 + 1)), (by first | rfl | (simp; done) | (simp [*]; done)), H', ⟨by have := HK1.out; have := HK2.out; omega⟩, ⟨by (with_reducible repeat (first | apply Kd.R_alloc | apply Kd.R_drewN | apply Kd.R_drew)); exact Kd.R_mono HO216.out (fun _ hk => trivial)⟩, ⟨by (with_reducible repeat (first | refine blk_drewN ?_ _ | refine blk_drew ?_ | refine blk_alloc ?_ _)); exact BK191.out⟩, ⟨by repeat (first | (with_reducible first | exact HB.out | apply below_alloc | apply pw_below_drewN | apply below_drew1 | refine below_set ?_ GE191.out) | exact HB.out)⟩⟩
                · rw [if_neg c29] at H
                  exact absurd H (by simp)
              · rw [if_neg c28] at H
                have c28b0 : decide (x9_2 < (l1_3.length : Int)) = false := decide_eq_false c28
                clear c28
                simp only [Option.some.injEq, Prod.mk.injEq] at H
                obtain ⟨rfl, rfl⟩ := H
                have hcz38_0 : wr.cell? ⟨gb191, 0, none⟩ = some (.string a1_0) := (blk_cell BK191.out 0).trans rfl
                have hcz38_1 : wr.cell? ⟨gb191, 1, none⟩ = some (.string a1_1) := (blk_cell BK191.out 1).trans rfl
                have hcz38_2 : wr.cell? ⟨gb191, 2, none⟩ = some (.slice A1_2 l1_2.length c1_2) := (blk_cell BK191.out 2).trans rfl
                have hcz38_3 : wr.cell? ⟨gb191, 3, none⟩ = some (.slice A1_3 l1_3.length c1_3) := (blk_cell BK191.out 3).trans rfl
                have hfz38_0 := blk_frozen BK191.out 0
                have hfz38_1 := blk_frozen BK191.out 1
                have hfz38_2 := blk_frozen BK191.out 2
                have hfz38_3 := blk_frozen BK191.out 3
                go_wp2
                go_ret2
                exact ⟨_, by first | rfl | (simp [errW_none, errW_some] <;> rfl) | (simp [*, errW_none, errW_some] <;> rfl), by (with_reducible repeat (first | apply Kd.R_alloc | apply Kd.R_drewN | apply Kd.R_drew)); exact HO_7.out, by repeat (first | (with_reducible first | exact HB.out | apply below_alloc | apply pw_below_drewN | apply below_drew1 | refine below_set ?_ GE191.out) | exact HB.out)⟩
  · rw [if_neg c4] at H
    have c4b0 : (t192 == 0) = false := beq_eq_false_iff_ne.mpr c4
    have c4b1 : (t192 != 0) = true := bne_iff_ne.mpr c4
    simp only [Option.some.injEq, Prod.mk.injEq] at H
    obtain ⟨rfl, rfl⟩ := H
    go_enter Try.func12, Try.ntmps12
    go_wp2_with (first | ((with_reducible refine gate_dst (N := 3) rfl ?_); refine box_event ?hg (N := 3) ?hd (cs := #[.string a1_0, .string a1_1, .slice A1_2 l1_2.length c1_2, .slice A1_3 l1_3.length c1_3]) (t := 26) ?hr ?_; (case hd => rfl); (case hg => rfl); (case hr => first | (go_simp; done) | (go_simp; rfl)); intro gb191 hg w39 hbox hb; have n0_ := Aside0.mk (below_step (by repeat (first | (with_reducible first | exact HB.out | apply below_alloc | apply pw_below_drewN | apply below_drew1) | exact HB.out)) hb); have n1_ := Aside0.mk (hbox); have n2_ := Aside0.mk ((by rw [hg]; exact (below_size (by repeat (first | (with_reducible first | exact HB.out | apply below_alloc | apply pw_below_drewN | apply below_drew1) | exact HB.out))) : w.heap.size ≤ gb191)); have n3_ := Aside0.mk ((by rw [hg]; exact (below_size (by repeat (first | (with_reducible first | exact HB.out | apply below_alloc | apply pw_below_drewN | apply below_drew1) | exact HB.out))) : w.heap.size ≤ gb191)); clear HB; have HB := n0_; have BK191 := n1_; have GW191 := n2_; have GE191 := n3_; clear n0_ n1_ n2_ n3_; clear hb hbox hg; have hcz40_0 : w39.cell? ⟨gb191, 0, none⟩ = some (.string a1_0) := (blk_cell BK191.out 0).trans rfl; have hcz40_1 : w39.cell? ⟨gb191, 1, none⟩ = some (.string a1_1) := (blk_cell BK191.out 1).trans rfl; have hcz40_2 : w39.cell? ⟨gb191, 2, none⟩ = some (.slice A1_2 l1_2.length c1_2) := (blk_cell BK191.out 2).trans rfl; have hcz40_3 : w39.cell? ⟨gb191, 3, none⟩ = some (.slice A1_3 l1_3.length c1_3) := (blk_cell BK191.out 3).trans rfl; have hfz40_0 := blk_frozen BK191.out 0; have hfz40_1 := blk_frozen BK191.out 1; have hfz40_2 := blk_frozen BK191.out 2; have hfz40_3 := blk_frozen BK191.out 3) | ((with_reducible refine gate_callee (f := 25) rfl ?_); refine goesL_ (some 11) rfl rfl Try.func25 (by kernel_rfl) rfl #[.agg #[.string a1_0, .string a1_1, .slice A1_2 l1_2.length c1_2, .slice A1_3 l1_3.length c1_3]] rfl (by (try simp only [List.map_toArray, List.map_cons, List.map_nil]); first | done | rfl | (simp only [List.length_drop, List.length_take]; rfl)) ?_; (with_reducible refine (registrarref04_MayG.calls a1_0 a1_1 _ _ l1_2 _ _ l1_3 t192 _ ?side1 ?side2 ?side3 ?side4 A3.out).mono ?_); (case side1 => repeat (first | exact (Kd.C_below HR1_2.out HB.out) | (with_reducible refine Kd.C_alloc ?_ _) | (with_reducible refine Kd.C_drewN ?_ _) | (with_reducible refine Kd.C_drew ?_))); (case side2 => exact HC1_2.out); (case side3 => repeat (first | exact (Kd.C_below HR1_3.out HB.out) | (with_reducible refine Kd.C_alloc ?_ _) | (with_reducible refine Kd.C_drewN ?_ _) | (with_reducible refine Kd.C_drew ?_))); (case side4 => exact HC1_3.out); rintro e w41 ⟨rfl, hb⟩; refine ⟨_, rfl, ?_⟩; have n0_ := Aside0.mk (blk_below (g := gb191) (o := .cells #[.string a1_0, .string a1_1, .slice A1_2 l1_2.length c1_2, .slice A1_3 l1_3.length c1_3] 26 (0, 0)) (by (with_reducible repeat (first | refine blk_drewN ?_ _ | refine blk_drew ?_ | refine blk_alloc ?_ _)); exact BK191.out) hb); have n1_ := Aside0.mk (below_step (by repeat (first | (with_reducible first | exact HB.out | apply below_alloc | apply pw_below_drewN | apply below_drew1 | refine below_set ?_ GE191.out) | exact HB.out)) hb); clear BK191; clear HB; have BK191 := n0_; have HB := n1_; clear n0_ n1_; (try clear hb); (try clear hb2); (try clear hk); (try clear hi)))
    go_ret2
    exact ⟨_, by first | rfl | (simp [errW_none, errW_some] <;> rfl) | (simp [*, errW_none, errW_some] <;> rfl), by first | exact Kd.R_nil _ _ _ _ _ | exact Kd.N_nil _ _ _ _ _ | exact Kd.V_nil _ _ _ _ _ | exact Kd.Q_nil _ _ _ _ _ | exact Kd.S_nil _ _ _ _ _, by repeat (first | (with_reducible first | exact HB.out | apply below_alloc | apply pw_below_drewN | apply below_drew1 | refine below_set ?_ GE191.out) | exact HB.out)⟩

end Go.Proofs.Ytmnidohgnnpeiaa.Prt
namespace Go.Proofs.Ytmnidohgnnpeiaa.Prt
open Go.RowKit Go.Proofs.YtmnidohgnnpeiaaW.PrintWords Go.Proofs.YtmnidohgnnpeiaaW.PrintLast Go.Proofs.YtmnidohgnnpeiaaW.PrintMore
attribute [local go_sem] max2_int min2_int max_two min_two max_three min_three max_four min_four   -- for this text's walks alone
set_option linter.unusedVariables false
set_option linter.unusedSimpArgs false

/-! ### registrarref04_SameAll: function 20 -/
def registrarref04_SameAll.l0 : Nat → List (S26) → List (S26) → Int → Option (Bool)
  | 0, _, _, _ => none
  | k + 1, x0, x1, x5 => if x5 < (x0.length : Int) then (if 0 ≤ x5 then (if x5 < (x1.length : Int) then ((registrarref04_SameG.f ((rd_T26 x0 x5).f0) ((rd_T26 x0 x5).f1) ((rd_T26 x0 x5).f2) ((rd_T26 x0 x5).f3) ((rd_T26 x1 x5).f0) ((rd_T26 x1 x5).f1) ((rd_T26 x1 x5).f2) ((rd_T26 x1 x5).f3)).bind fun t322 => (if t322 = true then (registrarref04_SameAll.l0 k x0 x1 (wrap64 (x5 + 1))) else (some false))) else (none)) else (none)) else (some true)
def registrarref04_SameAll.f (k : Nat) (l0 : List (S26)) (l1 : List (S26)) : Option (Bool) := if (l0.length : Int) = (l1.length : Int) then (registrarref04_SameAll.l0 k l0 l1 0) else (some false)
theorem registrarref04_SameAll.mono_l : ∀ k, (∀ y0 y1 y2, LeO (registrarref04_SameAll.l0 k y0 y1 y2) (registrarref04_SameAll.l0 (k + 1) y0 y1 y2))
  | 0 => fun _ _ _ r h => by simp [registrarref04_SameAll.l0] at h
  | k + 1 => by
    have ih0 := registrarref04_SameAll.mono_l k
    · intro y0 y1 y2
      unfold registrarref04_SameAll.l0
      repeat' first
      | (with_reducible exact ih0 _ _ _)
      | (with_reducible exact LeO.refl _)
      | (with_reducible exact LeO.none _)
      | (with_reducible refine LeO.ite ?_ ?_)
      | (with_reducible refine LeO.bind ?_ (fun _ => ?_))
      | exact ih0 _ _ _
      | exact LeO.none _
      | refine LeO.ite ?_ ?_
      | refine LeO.bind ?_ (fun _ => ?_)
theorem registrarref04_SameAll.mono : ∀ a0 a1 k, LeO (registrarref04_SameAll.f k a0 a1) (registrarref04_SameAll.f (k + 1) a0 a1) := by
  intro a0 a1 k
  have ih0 := registrarref04_SameAll.mono_l k
  unfold registrarref04_SameAll.f
  repeat' first
      | (with_reducible exact ih0 _ _ _)
      | (with_reducible exact LeO.refl _)
      | (with_reducible exact LeO.none _)
      | (with_reducible refine LeO.ite ?_ ?_)
      | (with_reducible refine LeO.bind ?_ (fun _ => ?_))
      | exact ih0 _ _ _
      | exact LeO.none _
      | refine LeO.ite ?_ ?_
      | refine LeO.bind ?_ (fun _ => ?_)
def registrarref04_SameAll.T6 : Bool × List (List Nat × List Nat) := (true, [([], []), ([], []), ([0, 1], [0, 1]), ([2], [2]), ([], []), ([], []), ([4, 5], [4, 5]), ([6], [6]), ([3, 7], [3, 7]), ([8, 8, 0, 1, 2, 3, 4, 5, 6, 7, 8], [8])])
def registrarref04_SameAll.B6 : List Nat := [0, 0, 3, 7, 0, 0, 48, 112, 255, 511]
theorem registrarref04_SameAll.tab6 : rtab .any (opsOf Try.f20 6) = registrarref04_SameAll.T6 := by kernel_rfl
theorem registrarref04_SameAll.bits6 : waitsOk registrarref04_SameAll.T6.2 registrarref04_SameAll.B6 = true := by kernel_rfl
set_option maxHeartbeats 8000000 in
set_option maxRecDepth 100000 in
theorem registrarref04_SameAll.calls (k : Nat) (A0 : Option Addr) (c0 : Nat) (l0 : List (S26)) (A1 : Option Addr) (c1 : Nat) (l1 : List (S26)) (r : Bool) (w : World) (hr0 : Kd.C k26 w A0 l0.length l0) (hc0 : l0.length ≤ c0) (hr1 : Kd.C k26 w A1 l1.length l1) (hc1 : l1.length ≤ c1) (h : registrarref04_SameAll.f k l0 l1 = some r) :
    Calls Try.prog 20 #[.slice A0 l0.length c0, .slice A1 l1.length c1] w fun e w' => e = .returned (.bool r) ∧ Below w.heap.size w w' := by
  have hu26 := Try.underlying26
  have HR0 := Aside0.mk hr0
  have HC0 := Aside0.mk hc0
  clear hr0 hc0
  have HR1 := Aside0.mk hr1
  have HC1 := Aside0.mk hc1
  clear hr1 hc1
  have HB := Aside0.mk (Below.refl w.heap.size w)
  have H : (if (l0.length : Int) = (l1.length : Int) then (registrarref04_SameAll.l0 k l0 l1 0) else (some false)) = some r := h
  clear h
  by_cases c3 : (l0.length : Int) = (l1.length : Int)
  · rw [if_pos c3] at H
    have c3b0 : ((l0.length : Int) == (l1.length : Int)) = true := beq_iff_eq.mpr c3
    have c3b1 : ((l0.length : Int) != (l1.length : Int)) = false := bne_eq_false_iff_eq.mpr c3
    have c3b2 : (l0.length == l1.length) = true := by first | simpa using c3 | (simp at c3 ⊢; omega)
    clear c3
    have H' := Aside0.mk H
    clear H
    go_enter Try.func20, Try.ntmps20
    go_wp2
    go_loopg [5] k (fun kq v5 w' => ∃ (x5_1 : Int), v5 = .int .i64 x5_1 ∧ Aside0 (registrarref04_SameAll.l0 kq l0 l1 x5_1 = some r) ∧ Aside0 (kq ≤ k) ∧ Aside0 (Below w.heap.size w w'))
    case atStart => exact ⟨(0), (by first | rfl | (simp; done) | (simp [*]; done)), H', ⟨Nat.le_refl _⟩, ⟨by repeat (first | (with_reducible first | exact HB.out | apply below_alloc | apply pw_below_drewN | apply below_drew1) | exact HB.out)⟩⟩
    case round =>
      clear H'
      try clear c1
      try clear c2
      try clear p2
      try clear c3
      try clear c3b0
      try clear c3b1
      try clear c3b2
      obtain ⟨x5_1, rfl, HA, HK1, HB⟩ := hrel
      cases gk with
      | zero => exact absurd HA.out (by simp [registrarref04_SameAll.l0])
      | succ k1 =>
        have H := HA.out
        clear HA
        simp only [registrarref04_SameAll.l0] at H
        by_cases c4 : x5_1 < (l0.length : Int)
        · rw [if_pos c4] at H
          have c4b0 : decide (x5_1 < (l0.length : Int)) = true := decide_eq_true c4
          clear c4
          by_cases c5 : 0 ≤ x5_1
          · rw [if_pos c5] at H
            have c5b0 : decide (0 ≤ x5_1) = true := decide_eq_true c5
            clear c5
            by_cases c6 : x5_1 < (l1.length : Int)
            · rw [if_pos c6] at H
              have c6b0 : decide (x5_1 < (l1.length : Int)) = true := decide_eq_true c6
              clear c6
              replace H := Option.bind_eq_some_iff.mp H
              obtain ⟨t322, A70, H⟩ := H
              replace H : (if t322 = true then (registrarref04_SameAll.l0 k1 l0 l1 (wrap64 (x5_1 + 1))) else (some false)) = some r := H
              have A7 := Aside0.mk A70
              clear A70
              by_cases c8 : t322 = true
              · subst c8
                have H1 : (registrarref04_SameAll.l0 k1 l0 l1 (wrap64 (x5_1 + 1))) = some r := by rw [if_pos rfl] at H; exact H
                clear H
                have H := H1
                clear H1
                have H' := Aside0.mk H
                clear H
                try go_wp2
                have n0_ := Aside0.mk (below_drew1 HB.out)
                clear HB
                have HB := n0_
                clear n0_
                have p320 : 0 ≤ (x5_1 : Int) := of_decide_eq_true (by first | (with_reducible assumption) | assumption)
                have q320 : x5_1 < (l0.length : Int) := of_decide_eq_true (by first | (with_reducible assumption) | assumption)
                obtain ⟨ad320, A320_2, c320_2, A320_3, c320_3, e320, hx320_0, hx320_1, hx320_2, hx320_3, hl320_2, hi320_2, hl320_3, hi320_3⟩ := at_T26 HR0.out x5_1 p320 q320
                have hw320_3 := hx320_3
                have hw320_2 := hx320_2
                have hw320_1 := hx320_1
                have hw320_0 := hx320_0
                cases e320
                replace hx320_0 := (HB.out.cell (World.block_lt_of_cell? w _ hx320_0)).trans hx320_0
                replace hx320_1 := (HB.out.cell (World.block_lt_of_cell? w _ hx320_1)).trans hx320_1
                replace hx320_2 := (HB.out.cell (World.block_lt_of_cell? w _ hx320_2)).trans hx320_2
                replace hx320_3 := (HB.out.cell (World.block_lt_of_cell? w _ hx320_3)).trans hx320_3
                have HR320_2 := Aside0.mk hi320_2
                have HC320_2 := Aside0.mk hl320_2
                clear hi320_2 hl320_2
                have HR320_3 := Aside0.mk hi320_3
                have HC320_3 := Aside0.mk hl320_3
                clear hi320_3 hl320_3
                replace p320 := eq_true p320
                replace q320 := eq_true q320
                have p321 : 0 ≤ (x5_1 : Int) := of_decide_eq_true (by first | (with_reducible assumption) | assumption)
                have q321 : x5_1 < (l1.length : Int) := of_decide_eq_true (by first | (with_reducible assumption) | assumption)
                obtain ⟨ad321, A321_2, c321_2, A321_3, c321_3, e321, hx321_0, hx321_1, hx321_2, hx321_3, hl321_2, hi321_2, hl321_3, hi321_3⟩ := at_T26 HR1.out x5_1 p321 q321
                have hw321_3 := hx321_3
                have hw321_2 := hx321_2
                have hw321_1 := hx321_1
                have hw321_0 := hx321_0
                cases e321
                replace hx321_0 := (HB.out.cell (World.block_lt_of_cell? w _ hx321_0)).trans hx321_0
                replace hx321_1 := (HB.out.cell (World.block_lt_of_cell? w _ hx321_1)).trans hx321_1
                replace hx321_2 := (HB.out.cell (World.block_lt_of_cell? w _ hx321_2)).trans hx321_2
                replace hx321_3 := (HB.out.cell (World.block_lt_of_cell? w _ hx321_3)).trans hx321_3
                have HR321_2 := Aside0.mk hi321_2
                have HC321_2 := Aside0.mk hl321_2
                clear hi321_2 hl321_2
                have HR321_3 := Aside0.mk hi321_3
                have HC321_3 := Aside0.mk hl321_3
                clear hi321_3 hl321_3
                replace p321 := eq_true p321
                replace q321 := eq_true q321
                refine start_ (n := 10) (S := fun w' => w'.cell? (ad320.add ((x5_1).toNat * 4)) = some (.string ((rd_T26 l0 x5_1).f0)) ∧ w'.cell? ⟨(ad320.add ((x5_1).toNat * 4)).block, (ad320.add ((x5_1).toNat * 4)).off + 1, none⟩ = some (.string ((rd_T26 l0 x5_1).f1)) ∧ w'.cell? ⟨(ad320.add ((x5_1).toNat * 4)).block, (ad320.add ((x5_1).toNat * 4)).off + 2, none⟩ = some (.slice A320_2 ((rd_T26 l0 x5_1).f2).length c320_2) ∧ w'.cell? ⟨(ad320.add ((x5_1).toNat * 4)).block, (ad320.add ((x5_1).toNat * 4)).off + 3, none⟩ = some (.slice A320_3 ((rd_T26 l0 x5_1).f3).length c320_3) ∧ w'.cell? (ad321.add ((x5_1).toNat * 4)) = some (.string ((rd_T26 l1 x5_1).f0)) ∧ w'.cell? ⟨(ad321.add ((x5_1).toNat * 4)).block, (ad321.add ((x5_1).toNat * 4)).off + 1, none⟩ = some (.string ((rd_T26 l1 x5_1).f1)) ∧ w'.cell? ⟨(ad321.add ((x5_1).toNat * 4)).block, (ad321.add ((x5_1).toNat * 4)).off + 2, none⟩ = some (.slice A321_2 ((rd_T26 l1 x5_1).f2).length c321_2) ∧ w'.cell? ⟨(ad321.add ((x5_1).toNat * 4)).block, (ad321.add ((x5_1).toNat * 4)).off + 3, none⟩ = some (.slice A321_3 ((rd_T26 l1 x5_1).f3).length c321_3)) (ds := []) #[false, false, false, false, false, false, false, false, false, false] (by kernel_rfl) rfl rfl ⟨((HB.out.cell (World.block_lt_of_cell? w _ hw320_0)).trans hw320_0), ((HB.out.cell (World.block_lt_of_cell? w _ hw320_1)).trans hw320_1), ((HB.out.cell (World.block_lt_of_cell? w _ hw320_2)).trans hw320_2), ((HB.out.cell (World.block_lt_of_cell? w _ hw320_3)).trans hw320_3), ((HB.out.cell (World.block_lt_of_cell? w _ hw321_0)).trans hw321_0), ((HB.out.cell (World.block_lt_of_cell? w _ hw321_1)).trans hw321_1), ((HB.out.cell (World.block_lt_of_cell? w _ hw321_2)).trans hw321_2), ((HB.out.cell (World.block_lt_of_cell? w _ hw321_3)).trans hw321_3)⟩ (fun hHeld => ?_); refine with_tabW registrarref04_SameAll.tab6 registrarref04_SameAll.bits6 (fun HT_ HW_ => ?_)
                generalize wr.drew = w9 at HB HR320_2 HR320_3 HR321_2 HR321_3 hx320_0 hx320_1 hx320_2 hx320_3 hx321_0 hx321_1 hx321_2 hx321_3 hHeld ⊢
                refine pure_ (i := 0) (N := some 18) (v := ?_) (a' := ?_) #[true, false, false, false, false, false, false, false, false, false] rfl rfl (any_of HT_.out (by kernel_rfl)) (fun _ _ _ h => h) (Or.inl ⟨by rfl, ?_⟩) ?_ ?_
                rotate_left
                · intro w'
                  go_simp
                  with_reducible rfl
                rotate_left
                · simp only [Act.put, List.setIfInBounds_toArray, List.set_cons_zero, List.set_cons_succ, i64_w, i32_w]
                  rfl
                refine pure_ (i := 1) (N := some 19) (v := ?_) (a' := ?_) #[true, true, false, false, false, false, false, false, false, false] rfl rfl (any_of HT_.out (by kernel_rfl)) (fun _ _ _ h => h) (Or.inl ⟨by rfl, ?_⟩) ?_ ?_
                rotate_left
                · intro w'
                  go_simp
                  with_reducible rfl
                rotate_left
                · simp only [Act.put, List.setIfInBounds_toArray, List.set_cons_zero, List.set_cons_succ, i64_w, i32_w]
                  rfl
                refine pure_ (i := 2) (N := some 20) (v := ?_) (a' := ?_) #[true, true, true, false, false, false, false, false, false, false] rfl rfl (any_of HT_.out (by kernel_rfl)) (fun _ _ _ h => h) (Or.inl ⟨by rfl, ?_⟩) ?_ ?_
                rotate_left
                · intro w'
                  go_simp
                  with_reducible rfl
                rotate_left
                · simp only [Act.put, List.setIfInBounds_toArray, List.set_cons_zero, List.set_cons_succ, i64_w, i32_w]
                  rfl
                refine pure_ (i := 4) (N := some 22) (v := ?_) (a' := ?_) #[true, true, true, false, true, false, false, false, false, false] rfl rfl (any_of HT_.out (by kernel_rfl)) (fun _ _ _ h => h) (Or.inl ⟨by rfl, ?_⟩) ?_ ?_
                rotate_left
                · intro w'
                  go_simp
                  with_reducible rfl
                rotate_left
                · simp only [Act.put, List.setIfInBounds_toArray, List.set_cons_zero, List.set_cons_succ, i64_w, i32_w]
                  rfl
                refine pure_ (i := 5) (N := some 23) (v := ?_) (a' := ?_) #[true, true, true, false, true, true, false, false, false, false] rfl rfl (any_of HT_.out (by kernel_rfl)) (fun _ _ _ h => h) (Or.inl ⟨by rfl, ?_⟩) ?_ ?_
                rotate_left
                · intro w'
                  go_simp
                  with_reducible rfl
                rotate_left
                · simp only [Act.put, List.setIfInBounds_toArray, List.set_cons_zero, List.set_cons_succ, i64_w, i32_w]
                  rfl
                refine pure_ (i := 6) (N := some 24) (v := ?_) (a' := ?_) #[true, true, true, false, true, true, true, false, false, false] rfl rfl (any_of HT_.out (by kernel_rfl)) (fun _ _ _ h => h) (Or.inl ⟨by rfl, ?_⟩) ?_ ?_
                rotate_left
                · intro w'
                  go_simp
                  with_reducible rfl
                rotate_left
                · simp only [Act.put, List.setIfInBounds_toArray, List.set_cons_zero, List.set_cons_succ, i64_w, i32_w]
                  rfl
                refine take_ (i := 3) (N := some 21) (v := ?_) (a' := ?_) #[true, true, true, true, true, true, true, false, false, false] rfl rfl (take_ofW HT_.out HW_.out (by kernel_rfl)) (fun _ _ _ h => h) (Or.inl ⟨by rfl, ?_⟩) hHeld ?_ ?_
                rotate_left
                · rintro w' ⟨s0, s1, s2, s3, s4, s5, s6, s7⟩
                  go_simp
                  with_reducible rfl
                rotate_left
                · simp only [Act.put, List.setIfInBounds_toArray, List.set_cons_zero, List.set_cons_succ, i64_w, i32_w]
                  rfl
                refine take_ (i := 7) (N := some 25) (v := ?_) (a' := ?_) #[true, true, true, true, true, true, true, true, false, false] rfl rfl (take_ofW HT_.out HW_.out (by kernel_rfl)) (fun _ _ _ h => h) (Or.inl ⟨by rfl, ?_⟩) hHeld ?_ ?_
                rotate_left
                · rintro w' ⟨s0, s1, s2, s3, s4, s5, s6, s7⟩
                  go_simp
                  with_reducible rfl
                rotate_left
                · simp only [Act.put, List.setIfInBounds_toArray, List.set_cons_zero, List.set_cons_succ, i64_w, i32_w]
                  rfl
                refine one_ (i := 8) (N := some 26) #[true, true, true, true, true, true, true, true, true, false] rfl rfl (one_of HT_.out (by kernel_rfl)) (by decide) (fun K hK => ?_)
                refine goes_ Try.func13 (by kernel_rfl) rfl #[.agg #[.string ((rd_T26 l0 x5_1).f0), .string ((rd_T26 l0 x5_1).f1), .slice A320_2 ((rd_T26 l0 x5_1).f2).length c320_2, .slice A320_3 ((rd_T26 l0 x5_1).f3).length c320_3], .agg #[.string ((rd_T26 l1 x5_1).f0), .string ((rd_T26 l1 x5_1).f1), .slice A321_2 ((rd_T26 l1 x5_1).f2).length c321_2, .slice A321_3 ((rd_T26 l1 x5_1).f3).length c321_3]] (by rfl) rfl rfl (by (try simp only [List.map_toArray, List.map_cons, List.map_nil]); first | done | rfl | (simp only [List.length_drop, List.length_take]; rfl)) ?_
                with_reducible refine (registrarref04_SameG.calls ((rd_T26 l0 x5_1).f0) ((rd_T26 l0 x5_1).f1) _ _ ((rd_T26 l0 x5_1).f2) _ _ ((rd_T26 l0 x5_1).f3) ((rd_T26 l1 x5_1).f0) ((rd_T26 l1 x5_1).f1) _ _ ((rd_T26 l1 x5_1).f2) _ _ ((rd_T26 l1 x5_1).f3) true _ ?side1 ?side2 ?side3 ?side4 ?side5 ?side6 ?side7 ?side8 A7.out).mono ?_
                (case side1 => repeat (first | exact (Kd.C_below HR320_2.out HB.out) | (with_reducible refine Kd.C_alloc ?_ _) | (with_reducible refine Kd.C_drewN ?_ _) | (with_reducible refine Kd.C_drew ?_)))
                (case side2 => exact HC320_2.out)
                (case side3 => repeat (first | exact (Kd.C_below HR320_3.out HB.out) | (with_reducible refine Kd.C_alloc ?_ _) | (with_reducible refine Kd.C_drewN ?_ _) | (with_reducible refine Kd.C_drew ?_)))
                (case side4 => exact HC320_3.out)
                (case side5 => repeat (first | exact (Kd.C_below HR321_2.out HB.out) | (with_reducible refine Kd.C_alloc ?_ _) | (with_reducible refine Kd.C_drewN ?_ _) | (with_reducible refine Kd.C_drew ?_)))
                (case side6 => exact HC321_2.out)
                (case side7 => repeat (first | exact (Kd.C_below HR321_3.out HB.out) | (with_reducible refine Kd.C_alloc ?_ _) | (with_reducible refine Kd.C_drewN ?_ _) | (with_reducible refine Kd.C_drew ?_)))
                (case side8 => exact HC321_3.out)
                rintro e w10 ⟨rfl, hb⟩
                refine ⟨_, rfl, ?_⟩
                have n0_ := Aside0.mk (below_step (by repeat (first | (with_reducible first | exact HB.out | apply below_alloc | apply pw_below_drewN | apply below_drew1) | exact HB.out)) hb)
                clear HB
                have HB := n0_
                clear n0_
                (try clear hb)
                (try clear hb2)
                (try clear hk)
                (try clear hi)
                refine hK.out _ _ ⟨((HB.out.cell (World.block_lt_of_cell? w _ hw320_0)).trans hw320_0), ((HB.out.cell (World.block_lt_of_cell? w _ hw320_1)).trans hw320_1), ((HB.out.cell (World.block_lt_of_cell? w _ hw320_2)).trans hw320_2), ((HB.out.cell (World.block_lt_of_cell? w _ hw320_3)).trans hw320_3), ((HB.out.cell (World.block_lt_of_cell? w _ hw321_0)).trans hw321_0), ((HB.out.cell (World.block_lt_of_cell? w _ hw321_1)).trans hw321_1), ((HB.out.cell (World.block_lt_of_cell? w _ hw321_2)).trans hw321_2), ((HB.out.cell (World.block_lt_of_cell? w _ hw321_3)).trans hw321_3)⟩ (fun hHeld => ?_)
                clear hK K
                refine norm_ (a' := ?_) ?_ ?_
                rotate_left
                · show Act.put _ (some 26) _ = _
                  simp only [Act.put, List.setIfInBounds_toArray, List.set_cons_zero, List.set_cons_succ, i64_w, i32_w]
                  rfl
                refine pure_ (i := 9) (N := some 6) (v := ?_) (a' := ?_) #[true, true, true, true, true, true, true, true, true, true] rfl rfl (any_of HT_.out (by kernel_rfl)) (fun _ _ _ h => h) (Or.inl ⟨by rfl, ?_⟩) ?_ ?_
                rotate_left
                · intro w'
                  go_simp
                  with_reducible rfl
                rotate_left
                · simp only [Act.put, List.setIfInBounds_toArray, List.set_cons_zero, List.set_cons_succ, i64_w, i32_w]
                  rfl
                refine done_ (done_of HT_.out (by kernel_rfl)) ?_
                try go_wp2
                go_roundg k1
                case measure => have := HK1.out; omega
                case rel => exact ⟨(wrap64 (x5_1 + 1)), (by first | rfl | (simp; done) | (simp [*]; done)), H', ⟨by have := HK1.out; omega⟩, ⟨by repeat (first | (with_reducible first | exact HB.out | apply below_alloc | apply pw_below_drewN | apply below_drew1) | exact HB.out)⟩⟩
              · replace c8 := Bool.eq_false_iff.mpr c8
                subst c8
                have H1 : (some false) = some r := by rw [if_neg (show ¬ (false = true) by decide)] at H; exact H
                clear H
                have H := H1
                clear H1
                obtain rfl := Option.some.inj H
                try go_wp2
                have n0_ := Aside0.mk (below_drew1 HB.out)
                clear HB
                have HB := n0_
                clear n0_
                have p320 : 0 ≤ (x5_1 : Int) := of_decide_eq_true (by first | (with_reducible assumption) | assumption)
                have q320 : x5_1 < (l0.length : Int) := of_decide_eq_true (by first | (with_reducible assumption) | assumption)
                obtain ⟨ad320, A320_2, c320_2, A320_3, c320_3, e320, hx320_0, hx320_1, hx320_2, hx320_3, hl320_2, hi320_2, hl320_3, hi320_3⟩ := at_T26 HR0.out x5_1 p320 q320
                have hw320_3 := hx320_3
                have hw320_2 := hx320_2
                have hw320_1 := hx320_1
                have hw320_0 := hx320_0
                cases e320
                replace hx320_0 := (HB.out.cell (World.block_lt_of_cell? w _ hx320_0)).trans hx320_0
                replace hx320_1 := (HB.out.cell (World.block_lt_of_cell? w _ hx320_1)).trans hx320_1
                replace hx320_2 := (HB.out.cell (World.block_lt_of_cell? w _ hx320_2)).trans hx320_2
                replace hx320_3 := (HB.out.cell (World.block_lt_of_cell? w _ hx320_3)).trans hx320_3
                have HR320_2 := Aside0.mk hi320_2
                have HC320_2 := Aside0.mk hl320_2
                clear hi320_2 hl320_2
                have HR320_3 := Aside0.mk hi320_3
                have HC320_3 := Aside0.mk hl320_3
                clear hi320_3 hl320_3
                replace p320 := eq_true p320
                replace q320 := eq_true q320
                have p321 : 0 ≤ (x5_1 : Int) := of_decide_eq_true (by first | (with_reducible assumption) | assumption)
                have q321 : x5_1 < (l1.length : Int) := of_decide_eq_true (by first | (with_reducible assumption) | assumption)
                obtain ⟨ad321, A321_2, c321_2, A321_3, c321_3, e321, hx321_0, hx321_1, hx321_2, hx321_3, hl321_2, hi321_2, hl321_3, hi321_3⟩ := at_T26 HR1.out x5_1 p321 q321
                have hw321_3 := hx321_3
                have hw321_2 := hx321_2
                have hw321_1 := hx321_1
                have hw321_0 := hx321_0
                cases e321
                replace hx321_0 := (HB.out.cell (World.block_lt_of_cell? w _ hx321_0)).trans hx321_0
                replace hx321_1 := (HB.out.cell (World.block_lt_of_cell? w _ hx321_1)).trans hx321_1
                replace hx321_2 := (HB.out.cell (World.block_lt_of_cell? w _ hx321_2)).trans hx321_2
                replace hx321_3 := (HB.out.cell (World.block_lt_of_cell? w _ hx321_3)).trans hx321_3
                have HR321_2 := Aside0.mk hi321_2
                have HC321_2 := Aside0.mk hl321_2
                clear hi321_2 hl321_2
                have HR321_3 := Aside0.mk hi321_3
                have HC321_3 := Aside0.mk hl321_3
                clear hi321_3 hl321_3
                replace p321 := eq_true p321
                replace q321 := eq_true q321
                refine start_ (n := 10) (S := fun w' => w'.cell? (ad320.add ((x5_1).toNat * 4)) = some (.string ((rd_T26 l0 x5_1).f0)) ∧ w'.cell? ⟨(ad320.add ((x5_1).toNat * 4)).block, (ad320.add ((x5_1).toNat * 4)).off + 1, none⟩ = some (.string ((rd_T26 l0 x5_1).f1)) ∧ w'.cell? ⟨(ad320.add ((x5_1).toNat * 4)).block, (ad320.add ((x5_1).toNat * 4)).off + 2, none⟩ = some (.slice A320_2 ((rd_T26 l0 x5_1).f2).length c320_2) ∧ w'.cell? ⟨(ad320.add ((x5_1).toNat * 4)).block, (ad320.add ((x5_1).toNat * 4)).off + 3, none⟩ = some (.slice A320_3 ((rd_T26 l0 x5_1).f3).length c320_3) ∧ w'.cell? (ad321.add ((x5_1).toNat * 4)) = some (.string ((rd_T26 l1 x5_1).f0)) ∧ w'.cell? ⟨(ad321.add ((x5_1).toNat * 4)).block, (ad321.add ((x5_1).toNat * 4)).off + 1, none⟩ = some (.string ((rd_T26 l1 x5_1).f1)) ∧ w'.cell? ⟨(ad321.add ((x5_1).toNat * 4)).block, (ad321.add ((x5_1).toNat * 4)).off + 2, none⟩ = some (.slice A321_2 ((rd_T26 l1 x5_1).f2).length c321_2) ∧ w'.cell? ⟨(ad321.add ((x5_1).toNat * 4)).block, (ad321.add ((x5_1).toNat * 4)).off + 3, none⟩ = some (.slice A321_3 ((rd_T26 l1 x5_1).f3).length c321_3)) (ds := []) #[false, false, false, false, false, false, false, false, false, false] (by kernel_rfl) rfl rfl ⟨((HB.out.cell (World.block_lt_of_cell? w _ hw320_0)).trans hw320_0), ((HB.out.cell (World.block_lt_of_cell? w _ hw320_1)).trans hw320_1), ((HB.out.cell (World.block_lt_of_cell? w _ hw320_2)).trans hw320_2), ((HB.out.cell (World.block_lt_of_cell? w _ hw320_3)).trans hw320_3), ((HB.out.cell (World.block_lt_of_cell? w _ hw321_0)).trans hw321_0), ((HB.out.cell (World.block_lt_of_cell? w _ hw321_1)).trans hw321_1), ((HB.out.cell (World.block_lt_of_cell? w _ hw321_2)).trans hw321_2), ((HB.out.cell (World.block_lt_of_cell? w _ hw321_3)).trans hw321_3)⟩ (fun hHeld => ?_); refine with_tabW registrarref04_SameAll.tab6 registrarref04_SameAll.bits6 (fun HT_ HW_ => ?_)
                generalize wr.drew = w11 at HB HR320_2 HR320_3 HR321_2 HR321_3 hx320_0 hx320_1 hx320_2 hx320_3 hx321_0 hx321_1 hx321_2 hx321_3 hHeld ⊢
                refine pure_ (i := 0) (N := some 18) (v := ?_) (a' := ?_) #[true, false, false, false, false, false, false, false, false, false] rfl rfl (any_of HT_.out (by kernel_rfl)) (fun _ _ _ h => h) (Or.inl ⟨by rfl, ?_⟩) ?_ ?_
                rotate_left
                · intro w'
                  go_simp
                  with_reducible rfl
                rotate_left
                · simp only [Act.put, List.setIfInBounds_toArray, List.set_cons_zero, List.set_cons_succ, i64_w, i32_w]
                  rfl
                refine pure_ (i := 1) (N := some 19) (v := ?_) (a' := ?_) #[true, true, false, false, false, false, false, false, false, false] rfl rfl (any_of HT_.out (by kernel_rfl)) (fun _ _ _ h => h) (Or.inl ⟨by rfl, ?_⟩) ?_ ?_
                rotate_left
                · intro w'
                  go_simp
                  with_reducible rfl
                rotate_left
                · simp only [Act.put, List.setIfInBounds_toArray, List.set_cons_zero, List.set_cons_succ, i64_w, i32_w]
                  rfl
                refine pure_ (i := 2) (N := some 20) (v := ?_) (a' := ?_) #[true, true, true, false, false, false, false, false, false, false] rfl rfl (any_of HT_.out (by kernel_rfl)) (fun _ _ _ h => h) (Or.inl ⟨by rfl, ?_⟩) ?_ ?_
                rotate_left
                · intro w'
                  go_simp
                  with_reducible rfl
                rotate_left
                · simp only [Act.put, List.setIfInBounds_toArray, List.set_cons_zero, List.set_cons_succ, i64_w, i32_w]
                  rfl
                refine pure_ (i := 4) (N := some 22) (v := ?_) (a' := ?_) #[true, true, true, false, true, false, false, false, false, false] rfl rfl (any_of HT_.out (by kernel_rfl)) (fun _ _ _ h => h) (Or.inl ⟨by rfl, ?_⟩) ?_ ?_
                rotate_left
                · intro w'
                  go_simp
                  with_reducible rfl
                rotate_left
                · simp only [Act.put, List.setIfInBounds_toArray, List.set_cons_zero, List.set_cons_succ, i64_w, i32_w]
                  rfl
                refine pure_ (i := 5) (N := some 23) (v := ?_) (a' := ?_) #[true, true, true, false, true, true, false, false, false, false] rfl rfl (any_of HT_.out (by kernel_rfl)) (fun _ _ _ h => h) (Or.inl ⟨by rfl, ?_⟩) ?_ ?_
                rotate_left
                · intro w'
                  go_simp
                  with_reducible rfl
                rotate_left
                · simp only [Act.put, List.setIfInBounds_toArray, List.set_cons_zero, List.set_cons_succ, i64_w, i32_w]
                  rfl
                refine pure_ (i := 6) (N := some 24) (v := ?_) (a' := ?_) #[true, true, true, false, true, true, true, false, false, false] rfl rfl (any_of HT_.out (by kernel_rfl)) (fun _ _ _ h => h) (Or.inl ⟨by rfl, ?_⟩) ?_ ?_
                rotate_left
                · intro w'
                  go_simp
                  with_reducible rfl
                rotate_left
                · simp only [Act.put, List.setIfInBounds_toArray, List.set_cons_zero, List.set_cons_succ, i64_w, i32_w]
                  rfl
                refine take_ (i := 3) (N := some 21) (v := ?_) (a' := ?_) #[true, true, true, true, true, true, true, false, false, false] rfl rfl (take_ofW HT_.out HW_.out (by kernel_rfl)) (fun _ _ _ h => h) (Or.inl ⟨by rfl, ?_⟩) hHeld ?_ ?_
                rotate_left
                · rintro w' ⟨s0, s1, s2, s3, s4, s5, s6, s7⟩
                  go_simp
                  with_reducible rfl
                rotate_left
                · simp only [Act.put, List.setIfInBounds_toArray, List.set_cons_zero, List.set_cons_succ, i64_w, i32_w]
                  rfl
                refine take_ (i := 7) (N := some 25) (v := ?_) (a' := ?_) #[true, true, true, true, true, true, true, true, false, false] rfl rfl (take_ofW HT_.out HW_.out (by kernel_rfl)) (fun _ _ _ h => h) (Or.inl ⟨by rfl, ?_⟩) hHeld ?_ ?_
                rotate_left
                · rintro w' ⟨s0, s1, s2, s3, s4, s5, s6, s7⟩
                  go_simp
                  with_reducible rfl
                rotate_left
                · simp only [Act.put, List.setIfInBounds_toArray, List.set_cons_zero, List.set_cons_succ, i64_w, i32_w]
                  rfl
                refine one_ (i := 8) (N := some 26) #[true, true, true, true, true, true, true, true, true, false] rfl rfl (one_of HT_.out (by kernel_rfl)) (by decide) (fun K hK => ?_)
                refine goes_ Try.func13 (by kernel_rfl) rfl #[.agg #[.string ((rd_T26 l0 x5_1).f0), .string ((rd_T26 l0 x5_1).f1), .slice A320_2 ((rd_T26 l0 x5_1).f2).length c320_2, .slice A320_3 ((rd_T26 l0 x5_1).f3).length c320_3], .agg #[.string ((rd_T26 l1 x5_1).f0), .string ((rd_T26 l1 x5_1).f1), .slice A321_2 ((rd_T26 l1 x5_1).f2).length c321_2, .slice A321_3 ((rd_T26 l1 x5_1).f3).length c321_3]] (by rfl) rfl rfl (by (try simp only [List.map_toArray, List.map_cons, List.map_nil]); first | done | rfl | (simp only [List.length_drop, List.length_take]; rfl)) ?_
                with_reducible refine (registrarref04_SameG.calls ((rd_T26 l0 x5_1).f0) ((rd_T26 l0 x5_1).f1) _ _ ((rd_T26 l0 x5_1).f2) _ _ ((rd_T26 l0 x5_1).f3) ((rd_T26 l1 x5_1).f0) ((rd_T26 l1 x5_1).f1) _ _ ((rd_T26 l1 x5_1).f2) _ _ ((rd_T26 l1 x5_1).f3) false _ ?side1 ?side2 ?side3 ?side4 ?side5 ?side6 ?side7 ?side8 A7.out).mono ?_
                (case side1 => repeat (first | exact (Kd.C_below HR320_2.out HB.out) | (with_reducible refine Kd.C_alloc ?_ _) | (with_reducible refine Kd.C_drewN ?_ _) | (with_reducible refine Kd.C_drew ?_)))
                (case side2 => exact HC320_2.out)
                (case side3 => repeat (first | exact (Kd.C_below HR320_3.out HB.out) | (with_reducible refine Kd.C_alloc ?_ _) | (with_reducible refine Kd.C_drewN ?_ _) | (with_reducible refine Kd.C_drew ?_)))
                (case side4 => exact HC320_3.out)
                (case side5 => repeat (first | exact (Kd.C_below HR321_2.out HB.out) | (with_reducible refine Kd.C_alloc ?_ _) | (with_reducible refine Kd.C_drewN ?_ _) | (with_reducible refine Kd.C_drew ?_)))
                (case side6 => exact HC321_2.out)
                (case side7 => repeat (first | exact (Kd.C_below HR321_3.out HB.out) | (with_reducible refine Kd.C_alloc ?_ _) | (with_reducible refine Kd.C_drewN ?_ _) | (with_reducible refine Kd.C_drew ?_)))
                (case side8 => exact HC321_3.out)
                rintro e w12 ⟨rfl, hb⟩
                refine ⟨_, rfl, ?_⟩
                have n0_ := Aside0.mk (below_step (by repeat (first | (with_reducible first | exact HB.out | apply below_alloc | apply pw_below_drewN | apply below_drew1) | exact HB.out)) hb)
                clear HB
                have HB := n0_
                clear n0_
                (try clear hb)
                (try clear hb2)
                (try clear hk)
                (try clear hi)
                refine hK.out _ _ ⟨((HB.out.cell (World.block_lt_of_cell? w _ hw320_0)).trans hw320_0), ((HB.out.cell (World.block_lt_of_cell? w _ hw320_1)).trans hw320_1), ((HB.out.cell (World.block_lt_of_cell? w _ hw320_2)).trans hw320_2), ((HB.out.cell (World.block_lt_of_cell? w _ hw320_3)).trans hw320_3), ((HB.out.cell (World.block_lt_of_cell? w _ hw321_0)).trans hw321_0), ((HB.out.cell (World.block_lt_of_cell? w _ hw321_1)).trans hw321_1), ((HB.out.cell (World.block_lt_of_cell? w _ hw321_2)).trans hw321_2), ((HB.out.cell (World.block_lt_of_cell? w _ hw321_3)).trans hw321_3)⟩ (fun hHeld => ?_)
                clear hK K
                refine norm_ (a' := ?_) ?_ ?_
                rotate_left
                · show Act.put _ (some 26) _ = _
                  simp only [Act.put, List.setIfInBounds_toArray, List.set_cons_zero, List.set_cons_succ, i64_w, i32_w]
                  rfl
                refine pure_ (i := 9) (N := some 6) (v := ?_) (a' := ?_) #[true, true, true, true, true, true, true, true, true, true] rfl rfl (any_of HT_.out (by kernel_rfl)) (fun _ _ _ h => h) (Or.inl ⟨by rfl, ?_⟩) ?_ ?_
                rotate_left
                · intro w'
                  go_simp
                  with_reducible rfl
                rotate_left
                · simp only [Act.put, List.setIfInBounds_toArray, List.set_cons_zero, List.set_cons_succ, i64_w, i32_w]
                  rfl
                refine done_ (done_of HT_.out (by kernel_rfl)) ?_
                try go_wp2
                go_ret
                exact ⟨by first | rfl | (simp [errW_none, errW_some] <;> rfl) | (simp [*, errW_none, errW_some] <;> rfl), by repeat (first | (with_reducible first | exact HB.out | apply below_alloc | apply pw_below_drewN | apply below_drew1) | exact HB.out)⟩
            · rw [if_neg c6] at H
              exact absurd H (by simp)
          · rw [if_neg c5] at H
            exact absurd H (by simp)
        · rw [if_neg c4] at H
          have c4b0 : decide (x5_1 < (l0.length : Int)) = false := decide_eq_false c4
          clear c4
          obtain rfl := Option.some.inj H
          go_wp2
          go_ret
          exact ⟨by first | rfl | (simp [errW_none, errW_some] <;> rfl) | (simp [*, errW_none, errW_some] <;> rfl), by repeat (first | (with_reducible first | exact HB.out | apply below_alloc | apply pw_below_drewN | apply below_drew1) | exact HB.out)⟩
  · rw [if_neg c3] at H
    have c3b0 : ((l0.length : Int) == (l1.length : Int)) = false := beq_eq_false_iff_ne.mpr c3
    have c3b1 : ((l0.length : Int) != (l1.length : Int)) = true := bne_iff_ne.mpr c3
    have c3b2 : (l0.length == l1.length) = false := by first | simpa using c3 | (simp at c3 ⊢; omega)
    obtain rfl := Option.some.inj H
    go_enter Try.func20, Try.ntmps20
    go_wp2
    go_ret
    exact ⟨by first | rfl | (simp [errW_none, errW_some] <;> rfl) | (simp [*, errW_none, errW_some] <;> rfl), by repeat (first | (with_reducible first | exact HB.out | apply below_alloc | apply pw_below_drewN | apply below_drew1) | exact HB.out)⟩

end Go.Proofs.Ytmnidohgnnpeiaa.Prt
namespace Go.Proofs.Ytmnidohgnnpeiaa.Prt
open Go.RowKit Go.Proofs.YtmnidohgnnpeiaaW.PrintWords Go.Proofs.YtmnidohgnnpeiaaW.PrintLast Go.Proofs.YtmnidohgnnpeiaaW.PrintMore Go.Proofs.Ytmnidohgnnpeiaa.Num Go.Proofs.Ytmnidohgnnpeiaa.Nam
set_option linter.unusedVariables false
set_option linter.unusedSimpArgs false

theorem drop_rdE (l : List S26) (i : Nat) (h : i < l.length) : l.drop i = rd_T26 l (i : Int) :: l.drop (i + 1) := by
  rw [List.drop_eq_getElem_cons h]
  unfold rd_T26
  rw [Int.toNat_natCast, List.getD_eq_getElem?_getD, List.getElem?_eq_getElem h]; rfl
theorem rdE_mem {l : List S26} {i : Nat} (h : i < l.length) : rd_T26 l (i : Int) ∈ l := getD_mem' h _
def eqE (x y : S26) : Bool := eqEv x.f0 x.f1 x.f2 x.f3 y.f0 y.f1 y.f2 y.f3
theorem eqE_iff (x y : S26) : eqE x y = true ↔ x = y := by
  unfold eqE
  rw [eqEv_iff]
  cases x; cases y; simp
def lenE (x : S26) : Bool := decide (x.f2.length ≤ 9223372036854775807) && decide (x.f3.length ≤ 9223372036854775807)
theorem sameAll_loop (a b : List S26) (hl : a.length ≤ 9223372036854775807) (hab : a.length = b.length) (hla : a.all lenE = true) : ∀ (n i k : Nat), i + n = a.length → n < k → registrarref04_SameAll.l0 k a b (i : Int) = some (eqL eqE (a.drop i) (b.drop i)) := by
  intro n
  induction n with
  | zero =>
    intro i k hi hk
    obtain ⟨k, rfl⟩ : ∃ m, k = m + 1 := ⟨k - 1, by omega⟩
    rw [registrarref04_SameAll.l0, if_neg (by omega), List.drop_eq_nil_of_le (by omega), List.drop_eq_nil_of_le (by omega)]; rfl
  | succ n ih =>
    intro i k hi hk
    obtain ⟨k, rfl⟩ : ∃ m, k = m + 1 := ⟨k - 1, by omega⟩
    have hx := List.all_eq_true.1 hla _ (rdE_mem (l := a) (i := i) (by omega))
    unfold lenE at hx
    rw [Bool.and_eq_true, decide_eq_true_iff, decide_eq_true_iff] at hx
    have m1 : registrarref04_SameG.f (rd_T26 a (i : Int)).f0 (rd_T26 a (i : Int)).f1 (rd_T26 a (i : Int)).f2 (rd_T26 a (i : Int)).f3 (rd_T26 b (i : Int)).f0 (rd_T26 b (i : Int)).f1 (rd_T26 b (i : Int)).f2 (rd_T26 b (i : Int)).f3 = some (eqE (rd_T26 a (i : Int)) (rd_T26 b (i : Int))) := if_pos hx
    rw [registrarref04_SameAll.l0, if_pos (by omega), if_pos (by omega), if_pos (by omega), m1, drop_rdE a i (by omega), drop_rdE b i (by omega), eqL]
    simp only [Option.bind_some]
    cases eqE (rd_T26 a (i : Int)) (rd_T26 b (i : Int)) with
    | true => rw [if_pos rfl, succW i (by omega), ih (i + 1) k (by omega) (by omega)]; rfl
    | false => rfl
def registrarref04_SameAllG.f (l0 : List (S26)) (l1 : List (S26)) : Option (Bool) := if l0.length ≤ 9223372036854775807 ∧ l0.all lenE = true then some (eqL eqE l0 l1) else none
theorem registrarref04_SameAllG.val {l0 l1 : List (S26)} {r : Bool} (h : registrarref04_SameAllG.f l0 l1 = some r) : ∃ k, registrarref04_SameAll.f k l0 l1 = some r := by
  unfold registrarref04_SameAllG.f at h
  by_cases hc : l0.length ≤ 9223372036854775807 ∧ l0.all lenE = true
  · rw [if_pos hc] at h
    rw [← h]
    refine ⟨l0.length + 1, ?_⟩
    unfold registrarref04_SameAll.f
    by_cases hl : l0.length = l1.length
    · rw [if_pos (by omega)]
      exact sameAll_loop l0 l1 hc.1 hl hc.2 l0.length 0 (l0.length + 1) (by omega) (by omega)
    · rw [if_neg (by omega), eqL_len _ _ hl]
  · rw [if_neg hc] at h; cases h
theorem registrarref04_SameAllG.calls (A0 : Option Addr) (c0 : Nat) (l0 : List (S26)) (A1 : Option Addr) (c1 : Nat) (l1 : List (S26)) (r : Bool) (w : World) (hr0 : Kd.C k26 w A0 l0.length l0) (hc0 : l0.length ≤ c0) (hr1 : Kd.C k26 w A1 l1.length l1) (hc1 : l1.length ≤ c1) (h : registrarref04_SameAllG.f l0 l1 = some r) :
    Calls Try.prog 20 #[.slice A0 l0.length c0, .slice A1 l1.length c1] w fun e w' => e = .returned (.bool r) ∧ Below w.heap.size w w' := by
  obtain ⟨k, hk⟩ := registrarref04_SameAllG.val h
  exact registrarref04_SameAll.calls k A0 c0 l0 A1 c1 l1 r w hr0 hc0 hr1 hc1 hk

def encTs (l : List ByteArray) : List Int := l.flatMap fun s => encT (bytesOf s)
def encFs (l : List S35) : List Int := l.flatMap fun f => encT (bytesOf f.f0) ++ enc f.f1
/-- An event as bytes. -/
def encEv (s t : ByteArray) (tags : List ByteArray) (fl : List S35) : List Int :=
  encT (bytesOf s) ++ (encT (bytesOf t) ++ ((enc (tags.length : Int) ++ encTs tags) ++ (enc (fl.length : Int) ++ encFs fl)))
theorem encT_len (s : ByteArray) (h : s.size ≤ 9223372036854775807) : (encT (bytesOf s)).length ≤ 10 + s.size := by
  unfold encT
  have := enc_len (x := ((bytesOf s).length : Int)) ⟨by omega, by rw [bytes_length]; omega⟩
  rw [List.length_append, bytes_length] at *; omega
theorem may_size {s : ByteArray} (h : mayL (bytesOf s) = true) : s.size ≤ 24 := by have := (may_parts h).2.1; rwa [bytes_length] at this
theorem tag_size {s : ByteArray} (h : tagB s = true) : s.size ≤ 49 := by
  obtain ⟨k, v, hs, h1, h2⟩ := (tagB_iff s).1 h
  have := may_size h1
  have := may_size h2
  rw [hs, ByteArray.size_append, ByteArray.size_append]
  show k.size + 1 + v.size ≤ 49
  omega
/-- What an event is in which nothing is wrong. -/
structure OkE (s t : ByteArray) (tags : List ByteArray) (fl : List S35) : Prop where
  hs : mayL (bytesOf s) = true
  ht : mayL (bytesOf t) = true
  ht6 : tags.length ≤ 6
  hf4 : fl.length ≤ 4
  htag : ∀ x ∈ tags, tagB x = true
  hname : ∀ x ∈ fl, mayL (bytesOf x.f0) = true
  hr1 : riseB tags = true
  hr2 : riseB (fl.map (·.f0)) = true
  hov : ∀ x ∈ fl, -1099511627776 ≤ x.f1 ∧ x.f1 ≤ 1099511627776
theorem okE_iff (s t : ByteArray) (tags : List ByteArray) (fl : List S35) : mayE s t tags fl = 0 ↔ OkE s t tags fl := by
  unfold mayE
  constructor
  · intro h
    by_cases c1 : mayL (bytesOf s) = false ∨ mayL (bytesOf t) = false
    · rw [if_pos c1] at h; cases h
    rw [if_neg c1] at h
    by_cases c2 : 6 < tags.length ∨ 4 < fl.length
    · rw [if_pos c2] at h; cases h
    rw [if_neg c2] at h
    by_cases c3 : (tags.any fun s => !tagB s) = true ∨ ((fl.map (·.f0)).any fun s => !mayL (bytesOf s)) = true
    · rw [if_pos c3] at h; cases h
    rw [if_neg c3] at h
    by_cases c4 : riseB tags = false ∨ riseB (fl.map (·.f0)) = false ∨ fl.any overB = true
    · rw [if_pos c4] at h; cases h
    simp only [not_or, Bool.not_eq_false, Bool.not_eq_true] at c1 c3 c4
    refine ⟨c1.1, c1.2, by omega, by omega, fun x hx => ?_, fun x hx => ?_, c4.1, c4.2.1, fun x hx => ?_⟩
    · have := List.any_eq_false.1 c3.1 x hx; simpa using this
    · have := List.any_eq_false.1 c3.2 x.f0 (List.mem_map.2 ⟨x, hx, rfl⟩); simpa using this
    · have := List.any_eq_false.1 c4.2.2 x hx
      unfold overB at this
      rw [decide_eq_true_iff] at this
      omega
  · intro h
    rw [if_neg (by rw [h.hs, h.ht]; simp), if_neg (by have := h.ht6; have := h.hf4; omega), if_neg ?_, if_neg ?_]
    · rw [h.hr1, h.hr2]
      have : fl.any overB = false := List.any_eq_false.2 (fun x hx => by unfold overB; rw [decide_eq_true_iff]; have := h.hov x hx; omega)
      rw [this]; simp
    · rintro (c | c)
      · obtain ⟨x, hx, h2⟩ := List.any_eq_true.1 c
        rw [h.htag x hx] at h2; cases h2
      · obtain ⟨y, hy, h2⟩ := List.any_eq_true.1 c
        obtain ⟨x, hx, rfl⟩ := List.mem_map.1 hy
        rw [h.hname x hx] at h2; cases h2

theorem evcode_Put_l1 (s t : ByteArray) (tags : List ByteArray) (fl : List S35) (hf : fl.length ≤ 4) (hn : ∀ x ∈ fl, x.f0.size ≤ 24) (ho : ∀ x ∈ fl, -1099511627776 ≤ x.f1 ∧ x.f1 ≤ 1099511627776) : ∀ (n i k : Nat) (x : List Int), i + n = fl.length → n < k → x.length + 50 * n ≤ 140737488348000 → evcode_Put.l1 k x fl (fl.length : Int) (i : Int) = some (x ++ encFs (fl.drop i), 0) := by
  intro n
  induction n with
  | zero =>
    intro i k x hi hk hx
    obtain ⟨k, rfl⟩ : ∃ m, k = m + 1 := ⟨k - 1, by omega⟩
    rw [evcode_Put.l1, if_neg (by omega), List.drop_eq_nil_of_le (by omega)]
    unfold encFs; rw [List.flatMap_nil, List.append_nil]
  | succ n ih =>
    intro i k x hi hk hx
    obtain ⟨k, rfl⟩ : ∃ m, k = m + 1 := ⟨k - 1, by omega⟩
    have hm := rdF_mem (l := fl) (i := i) (by omega)
    have h1 := hn _ hm
    have h2 := ho _ hm
    have h3 := encT_len (rd_T35 fl (i : Int)).f0 (by omega)
    have h4 := enc_len (x := (rd_T35 fl (i : Int)).f1) ⟨by omega, by omega⟩
    have m1 : num_PutText.f x (rd_T35 fl (i : Int)).f0 = some (x ++ encT (bytesOf (rd_T35 fl (i : Int)).f0)) := if_pos (by omega)
    have m2 : num_Put.f (x ++ encT (bytesOf (rd_T35 fl (i : Int)).f0)) (rd_T35 fl (i : Int)).f1 = some ((x ++ encT (bytesOf (rd_T35 fl (i : Int)).f0)) ++ enc (rd_T35 fl (i : Int)).f1) := if_pos ⟨by rw [List.length_append]; omega, by omega, by omega⟩
    rw [evcode_Put.l1, if_pos (by omega), if_pos (by omega), if_pos (by omega), m1]
    simp only [Option.bind_some]
    rw [m2]
    simp only [Option.bind_some]
    rw [succW i (by omega), ih (i + 1) k _ (by omega) (by omega) (by rw [List.length_append, List.length_append]; omega), drop_rdF fl i (by omega)]
    unfold encFs; rw [List.flatMap_cons]; simp only [List.append_assoc]
theorem evcode_Put_l0 (s t : ByteArray) (tags : List ByteArray) (fl : List S35) (hf : fl.length ≤ 4) (ht : tags.length ≤ 6) (htg : ∀ x ∈ tags, x.size ≤ 49) (hn : ∀ x ∈ fl, x.f0.size ≤ 24) (ho : ∀ x ∈ fl, -1099511627776 ≤ x.f1 ∧ x.f1 ≤ 1099511627776) : ∀ (n i k : Nat) (x : List Int), i + n = tags.length → n + 5 < k → x.length + 60 * n ≤ 140737488347000 → evcode_Put.l0 k x tags (tags.length : Int) (i : Int) s t tags fl = some (x ++ (encTs (tags.drop i) ++ (enc (fl.length : Int) ++ encFs fl)), 0) := by
  intro n
  induction n with
  | zero =>
    intro i k x hi hk hx
    obtain ⟨k, rfl⟩ : ∃ m, k = m + 1 := ⟨k - 1, by omega⟩
    have h4 := enc_len (x := (fl.length : Int)) ⟨by omega, by omega⟩
    have m2 : num_Put.f x (fl.length : Int) = some (x ++ enc (fl.length : Int)) := if_pos ⟨by omega, by omega, by omega⟩
    rw [evcode_Put.l0, if_neg (by omega), m2, List.drop_eq_nil_of_le (by omega)]
    simp only [Option.bind_some]
    have := evcode_Put_l1 s t tags fl hf hn ho fl.length 0 k (x ++ enc (fl.length : Int)) (by omega) (by omega) (by rw [List.length_append]; omega)
    rw [List.drop_zero, List.append_assoc] at this
    exact this
  | succ n ih =>
    intro i k x hi hk hx
    obtain ⟨k, rfl⟩ : ∃ m, k = m + 1 := ⟨k - 1, by omega⟩
    have h1 := htg _ (rdOf_mem (l := tags) (i := i) (by omega))
    have h3 := encT_len (rdOf ByteArray.empty tags (i : Int)) (by omega)
    have m1 : num_PutText.f x (rdOf ByteArray.empty tags (i : Int)) = some (x ++ encT (bytesOf (rdOf ByteArray.empty tags (i : Int)))) := if_pos (by omega)
    rw [evcode_Put.l0, if_pos (by omega), if_pos (by omega), if_pos (by omega), m1]
    simp only [Option.bind_some]
    rw [succW i (by omega), ih (i + 1) k _ (by omega) (by omega) (by rw [List.length_append]; omega), drop_rd tags i (by omega)]
    unfold encTs; rw [List.flatMap_cons]; simp only [List.append_assoc]
def evcode_PutG.f (l0 : List Int) (a1_0 : ByteArray) (a1_1 : ByteArray) (l1_2 : List ByteArray) (l1_3 : List (S35)) : Option (List Int × Int) :=
  if l0.length ≤ 140737488340000 ∧ l1_2.length ≤ 9223372036854775807 ∧ fitE a1_0 a1_1 l1_2 l1_3 = true then some (if mayE a1_0 a1_1 l1_2 l1_3 = 0 then (l0 ++ encEv a1_0 a1_1 l1_2 l1_3, 0) else ([], mayE a1_0 a1_1 l1_2 l1_3)) else none
theorem evcode_PutG.val {l0 : List Int} {a1_0 : ByteArray} {a1_1 : ByteArray} {l1_2 : List ByteArray} {l1_3 : List (S35)} {r1 : List Int} {r2 : Int} (h : evcode_PutG.f l0 a1_0 a1_1 l1_2 l1_3 = some (r1, r2)) : ∃ k, evcode_Put.f k l0 a1_0 a1_1 l1_2 l1_3 = some (r1, r2) := by
  unfold evcode_PutG.f at h
  by_cases hc : l0.length ≤ 140737488340000 ∧ l1_2.length ≤ 9223372036854775807 ∧ fitE a1_0 a1_1 l1_2 l1_3 = true
  · rw [if_pos hc] at h
    rw [← h]
    have m0 : event_May.f a1_0 a1_1 l1_2 l1_3 = some (mayE a1_0 a1_1 l1_2 l1_3) := if_pos hc.2.2
    refine ⟨l1_2.length + 7, ?_⟩
    unfold evcode_Put.f
    rw [m0]
    simp only [Option.bind_some]
    by_cases h0 : mayE a1_0 a1_1 l1_2 l1_3 = 0
    · rw [if_pos h0, if_pos h0]
      have ok := (okE_iff _ _ _ _).1 h0
      have z1 := may_size ok.hs
      have z2 := may_size ok.ht
      have q1 := encT_len a1_0 (by omega)
      have q2 := encT_len a1_1 (by omega)
      have ht6 := ok.ht6
      have q3 := enc_len (x := (l1_2.length : Int)) ⟨by omega, by omega⟩
      have m1 : num_PutText.f l0 a1_0 = some (l0 ++ encT (bytesOf a1_0)) := if_pos (by omega)
      have m2 : num_PutText.f (l0 ++ encT (bytesOf a1_0)) a1_1 = some ((l0 ++ encT (bytesOf a1_0)) ++ encT (bytesOf a1_1)) := if_pos (by rw [List.length_append]; omega)
      have m3 : num_Put.f ((l0 ++ encT (bytesOf a1_0)) ++ encT (bytesOf a1_1)) (l1_2.length : Int) = some (((l0 ++ encT (bytesOf a1_0)) ++ encT (bytesOf a1_1)) ++ enc (l1_2.length : Int)) := if_pos ⟨by rw [List.length_append, List.length_append]; omega, by omega, by omega⟩
      rw [m1]
      simp only [Option.bind_some]
      rw [m2]
      simp only [Option.bind_some]
      rw [m3]
      simp only [Option.bind_some]
      have := evcode_Put_l0 a1_0 a1_1 l1_2 l1_3 ok.hf4 ht6 (fun x hx => tag_size (ok.htag x hx)) (fun x hx => may_size (ok.hname x hx)) ok.hov l1_2.length 0 (l1_2.length + 7) (((l0 ++ encT (bytesOf a1_0)) ++ encT (bytesOf a1_1)) ++ enc (l1_2.length : Int)) (by omega) (by omega) (by rw [List.length_append, List.length_append, List.length_append]; omega)
      rw [List.drop_zero] at this
      refine this.trans ?_
      unfold encEv
      simp only [List.append_assoc]
    · rw [if_neg h0, if_neg h0]
  · rw [if_neg hc] at h; cases h
theorem evcode_PutG.calls (A0 : Option Addr) (c0 : Nat) (l0 : List Int) (a1_0 : ByteArray) (a1_1 : ByteArray) (A1_2 : Option Addr) (c1_2 : Nat) (l1_2 : List ByteArray) (A1_3 : Option Addr) (c1_3 : Nat) (l1_3 : List (S35)) (r1 : List Int) (r2 : Int) (w : World) (hr0 : Kd.C (Kd.int .u8) w A0 l0.length l0) (hc0 : l0.length ≤ c0) (hr1_2 : Kd.C Kd.string w A1_2 l1_2.length l1_2) (hc1_2 : l1_2.length ≤ c1_2) (hr1_3 : Kd.C k35 w A1_3 l1_3.length l1_3) (hc1_3 : l1_3.length ≤ c1_3) (h : evcode_PutG.f l0 a1_0 a1_1 l1_2 l1_3 = some (r1, r2)) :
    Calls Try.prog 10 #[.slice A0 l0.length c0, .agg #[.string a1_0, .string a1_1, .slice A1_2 l1_2.length c1_2, .slice A1_3 l1_3.length c1_3]] w fun e w' => ∃ v0_ : Value, e = .returned (.tuple #[v0_, .int .i64 r2]) ∧ Kd.R (Kd.int .u8) 5 w' w.heap.size (fun _ => True) v0_ r1 ∧ Below w.heap.size w w' := by
  obtain ⟨k, hk⟩ := evcode_PutG.val h
  exact evcode_Put.calls k A0 c0 l0 a1_0 a1_1 A1_2 c1_2 l1_2 A1_3 c1_3 l1_3 r1 r2 w hr0 hc0 hr1_2 hc1_2 hr1_3 hc1_3 hk

theorem registrarref05_Put_l1 (s t : ByteArray) (tags : List ByteArray) (fl : List S35) (hf : fl.length ≤ 4) (hn : ∀ x ∈ fl, x.f0.size ≤ 24) (ho : ∀ x ∈ fl, -1099511627776 ≤ x.f1 ∧ x.f1 ≤ 1099511627776) : ∀ (n i k : Nat) (x : List Int), i + n = fl.length → n < k → x.length + 50 * n ≤ 140737488348000 → registrarref05_Put.l1 k x (i : Int) s t tags fl = some (x ++ encFs (fl.drop i), 0) := by
  intro n
  induction n with
  | zero =>
    intro i k x hi hk hx
    obtain ⟨k, rfl⟩ : ∃ m, k = m + 1 := ⟨k - 1, by omega⟩
    rw [registrarref05_Put.l1, if_neg (by omega), List.drop_eq_nil_of_le (by omega)]
    unfold encFs; rw [List.flatMap_nil, List.append_nil]
  | succ n ih =>
    intro i k x hi hk hx
    obtain ⟨k, rfl⟩ : ∃ m, k = m + 1 := ⟨k - 1, by omega⟩
    have hm := rdF_mem (l := fl) (i := i) (by omega)
    have h1 := hn _ hm
    have h2 := ho _ hm
    have h3 := encT_len (rd_T35 fl (i : Int)).f0 (by omega)
    have h4 := enc_len (x := (rd_T35 fl (i : Int)).f1) ⟨by omega, by omega⟩
    have m1 : registrarref01_PutText.f x (rd_T35 fl (i : Int)).f0 = some (x ++ encT (bytesOf (rd_T35 fl (i : Int)).f0)) := if_pos (by omega)
    have m2 : registrarref01_Put.f (x ++ encT (bytesOf (rd_T35 fl (i : Int)).f0)) (rd_T35 fl (i : Int)).f1 = some ((x ++ encT (bytesOf (rd_T35 fl (i : Int)).f0)) ++ enc (rd_T35 fl (i : Int)).f1) := if_pos ⟨by rw [List.length_append]; omega, by omega, by omega⟩
    rw [registrarref05_Put.l1, if_pos (by omega), if_pos (by omega), m1]
    simp only [Option.bind_some]
    rw [m2]
    simp only [Option.bind_some]
    rw [succW i (by omega), ih (i + 1) k _ (by omega) (by omega) (by rw [List.length_append, List.length_append]; omega), drop_rdF fl i (by omega)]
    unfold encFs; rw [List.flatMap_cons]; simp only [List.append_assoc]
theorem registrarref05_Put_l0 (s t : ByteArray) (tags : List ByteArray) (fl : List S35) (hf : fl.length ≤ 4) (ht : tags.length ≤ 6) (htg : ∀ x ∈ tags, x.size ≤ 49) (hn : ∀ x ∈ fl, x.f0.size ≤ 24) (ho : ∀ x ∈ fl, -1099511627776 ≤ x.f1 ∧ x.f1 ≤ 1099511627776) : ∀ (n i k : Nat) (x : List Int), i + n = tags.length → n + 5 < k → x.length + 60 * n ≤ 140737488347000 → registrarref05_Put.l0 k x (i : Int) s t tags fl = some (x ++ (encTs (tags.drop i) ++ (enc (fl.length : Int) ++ encFs fl)), 0) := by
  intro n
  induction n with
  | zero =>
    intro i k x hi hk hx
    obtain ⟨k, rfl⟩ : ∃ m, k = m + 1 := ⟨k - 1, by omega⟩
    have h4 := enc_len (x := (fl.length : Int)) ⟨by omega, by omega⟩
    have m2 : registrarref01_Put.f x (fl.length : Int) = some (x ++ enc (fl.length : Int)) := if_pos ⟨by omega, by omega, by omega⟩
    rw [registrarref05_Put.l0, if_neg (by omega), m2, List.drop_eq_nil_of_le (by omega)]
    simp only [Option.bind_some]
    have := registrarref05_Put_l1 s t tags fl hf hn ho fl.length 0 k (x ++ enc (fl.length : Int)) (by omega) (by omega) (by rw [List.length_append]; omega)
    rw [List.drop_zero, List.append_assoc] at this
    exact this
  | succ n ih =>
    intro i k x hi hk hx
    obtain ⟨k, rfl⟩ : ∃ m, k = m + 1 := ⟨k - 1, by omega⟩
    have h1 := htg _ (rdOf_mem (l := tags) (i := i) (by omega))
    have h3 := encT_len (rdOf ByteArray.empty tags (i : Int)) (by omega)
    have m1 : registrarref01_PutText.f x (rdOf ByteArray.empty tags (i : Int)) = some (x ++ encT (bytesOf (rdOf ByteArray.empty tags (i : Int)))) := if_pos (by omega)
    rw [registrarref05_Put.l0, if_pos (by omega), if_pos (by omega), m1]
    simp only [Option.bind_some]
    rw [succW i (by omega), ih (i + 1) k _ (by omega) (by omega) (by rw [List.length_append]; omega), drop_rd tags i (by omega)]
    unfold encTs; rw [List.flatMap_cons]; simp only [List.append_assoc]
def registrarref05_PutG.f (l0 : List Int) (a1_0 : ByteArray) (a1_1 : ByteArray) (l1_2 : List ByteArray) (l1_3 : List (S35)) : Option (List Int × Int) :=
  if l0.length ≤ 140737488340000 ∧ l1_2.length ≤ 9223372036854775807 ∧ fitE a1_0 a1_1 l1_2 l1_3 = true then some (if mayE a1_0 a1_1 l1_2 l1_3 = 0 then (l0 ++ encEv a1_0 a1_1 l1_2 l1_3, 0) else ([], mayE a1_0 a1_1 l1_2 l1_3)) else none
theorem registrarref05_PutG.val {l0 : List Int} {a1_0 : ByteArray} {a1_1 : ByteArray} {l1_2 : List ByteArray} {l1_3 : List (S35)} {r1 : List Int} {r2 : Int} (h : registrarref05_PutG.f l0 a1_0 a1_1 l1_2 l1_3 = some (r1, r2)) : ∃ k, registrarref05_Put.f k l0 a1_0 a1_1 l1_2 l1_3 = some (r1, r2) := by
  unfold registrarref05_PutG.f at h
  by_cases hc : l0.length ≤ 140737488340000 ∧ l1_2.length ≤ 9223372036854775807 ∧ fitE a1_0 a1_1 l1_2 l1_3 = true
  · rw [if_pos hc] at h
    rw [← h]
    have m0 : registrarref04_MayG.f a1_0 a1_1 l1_2 l1_3 = some (mayE a1_0 a1_1 l1_2 l1_3) := if_pos ⟨hc.2.2, hc.2.1⟩
    refine ⟨l1_2.length + 7, ?_⟩
    unfold registrarref05_Put.f
    rw [m0]
    simp only [Option.bind_some]
    by_cases h0 : mayE a1_0 a1_1 l1_2 l1_3 = 0
    · rw [if_pos h0, if_pos h0]
      have ok := (okE_iff _ _ _ _).1 h0
      have z1 := may_size ok.hs
      have z2 := may_size ok.ht
      have q1 := encT_len a1_0 (by omega)
      have q2 := encT_len a1_1 (by omega)
      have ht6 := ok.ht6
      have q3 := enc_len (x := (l1_2.length : Int)) ⟨by omega, by omega⟩
      have m1 : registrarref01_PutText.f l0 a1_0 = some (l0 ++ encT (bytesOf a1_0)) := if_pos (by omega)
      have m2 : registrarref01_PutText.f (l0 ++ encT (bytesOf a1_0)) a1_1 = some ((l0 ++ encT (bytesOf a1_0)) ++ encT (bytesOf a1_1)) := if_pos (by rw [List.length_append]; omega)
      have m3 : registrarref01_Put.f ((l0 ++ encT (bytesOf a1_0)) ++ encT (bytesOf a1_1)) (l1_2.length : Int) = some (((l0 ++ encT (bytesOf a1_0)) ++ encT (bytesOf a1_1)) ++ enc (l1_2.length : Int)) := if_pos ⟨by rw [List.length_append, List.length_append]; omega, by omega, by omega⟩
      rw [m1]
      simp only [Option.bind_some]
      rw [m2]
      simp only [Option.bind_some]
      rw [m3]
      simp only [Option.bind_some]
      have := registrarref05_Put_l0 a1_0 a1_1 l1_2 l1_3 ok.hf4 ht6 (fun x hx => tag_size (ok.htag x hx)) (fun x hx => may_size (ok.hname x hx)) ok.hov l1_2.length 0 (l1_2.length + 7) (((l0 ++ encT (bytesOf a1_0)) ++ encT (bytesOf a1_1)) ++ enc (l1_2.length : Int)) (by omega) (by omega) (by rw [List.length_append, List.length_append, List.length_append]; omega)
      rw [List.drop_zero] at this
      refine this.trans ?_
      unfold encEv
      simp only [List.append_assoc]
    · rw [if_neg h0, if_neg h0]
  · rw [if_neg hc] at h; cases h
theorem registrarref05_PutG.calls (A0 : Option Addr) (c0 : Nat) (l0 : List Int) (a1_0 : ByteArray) (a1_1 : ByteArray) (A1_2 : Option Addr) (c1_2 : Nat) (l1_2 : List ByteArray) (A1_3 : Option Addr) (c1_3 : Nat) (l1_3 : List (S35)) (r1 : List Int) (r2 : Int) (w : World) (hr0 : Kd.C (Kd.int .u8) w A0 l0.length l0) (hc0 : l0.length ≤ c0) (hr1_2 : Kd.C Kd.string w A1_2 l1_2.length l1_2) (hc1_2 : l1_2.length ≤ c1_2) (hr1_3 : Kd.C k35 w A1_3 l1_3.length l1_3) (hc1_3 : l1_3.length ≤ c1_3) (h : registrarref05_PutG.f l0 a1_0 a1_1 l1_2 l1_3 = some (r1, r2)) :
    Calls Try.prog 12 #[.slice A0 l0.length c0, .agg #[.string a1_0, .string a1_1, .slice A1_2 l1_2.length c1_2, .slice A1_3 l1_3.length c1_3]] w fun e w' => ∃ v0_ : Value, e = .returned (.tuple #[v0_, .int .i64 r2]) ∧ Kd.R (Kd.int .u8) 5 w' w.heap.size (fun _ => True) v0_ r1 ∧ Below w.heap.size w w' := by
  obtain ⟨k, hk⟩ := registrarref05_PutG.val h
  exact registrarref05_Put.calls k A0 c0 l0 a1_0 a1_1 A1_2 c1_2 l1_2 A1_3 c1_3 l1_3 r1 r2 w hr0 hc0 hr1_2 hc1_2 hr1_3 hc1_3 hk
end Go.Proofs.Ytmnidohgnnpeiaa.Prt
namespace Go.Proofs.Ytmnidohgnnpeiaa.Prt
open Go.RowKit Go.Proofs.YtmnidohgnnpeiaaW.PrintWords Go.Proofs.YtmnidohgnnpeiaaW.PrintLast Go.Proofs.YtmnidohgnnpeiaaW.PrintMore
attribute [local go_sem] max2_int min2_int max_two min_two max_three min_three max_four min_four   -- for this text's walks alone
set_option linter.unusedVariables false
set_option linter.unusedSimpArgs false

/-! ### registrarlaw05_shown: function 9 -/
def registrarlaw05_shown.f  : Option (Bool) := (evcode_PutG.f ([] : List Int) (⟨#[115]⟩ : ByteArray) (⟨#[116]⟩ : ByteArray) ([] : List ByteArray) ([] : List (S35))).bind fun bt135 => (if (strOfNums bt135.1).toList = ([2, 115, 2, 116, 0, 0] : List UInt8) then (some (bt135.2 == 0)) else (some false))
set_option maxHeartbeats 8000000 in
set_option maxRecDepth 100000 in
theorem registrarlaw05_shown.calls  (r : Bool) (w : World) (h : registrarlaw05_shown.f  = some r) :
    Calls Try.prog 9 #[] w fun e w' => e = .returned (.bool r) ∧ Below w.heap.size w w' := by
  have hu26 := Try.underlying26
  have HB := Aside0.mk (Below.refl w.heap.size w)
  have H : ((evcode_PutG.f ([] : List Int) (⟨#[115]⟩ : ByteArray) (⟨#[116]⟩ : ByteArray) ([] : List ByteArray) ([] : List (S35))).bind fun bt135 => (if (strOfNums bt135.1).toList = ([2, 115, 2, 116, 0, 0] : List UInt8) then (some (bt135.2 == 0)) else (some false))) = some r := h
  clear h
  replace H := Option.bind_eq_some_iff.mp H
  obtain ⟨⟨t135, t138⟩, A10, H⟩ := H
  replace H : (if (strOfNums t135).toList = ([2, 115, 2, 116, 0, 0] : List UInt8) then (some (t138 == 0)) else (some false)) = some r := H
  have A1 := Aside0.mk A10
  clear A10
  by_cases c2 : (strOfNums t135).toList = ([2, 115, 2, 116, 0, 0] : List UInt8)
  · rw [if_pos c2] at H
    have c2b0 : ((strOfNums t135).toList == ([2, 115, 2, 116, 0, 0] : List UInt8)) = true := beq_iff_eq.mpr c2
    have c2b1 : ((strOfNums t135).toList != ([2, 115, 2, 116, 0, 0] : List UInt8)) = false := bne_eq_false_iff_eq.mpr c2
    clear c2
    obtain rfl := Option.some.inj H
    go_enter Try.func9, Try.ntmps9
    go_wp2_with (first | ((with_reducible refine gate_callee (f := 10) rfl ?_); refine goesL_ (some 5) rfl rfl Try.func10 (by kernel_rfl) rfl #[.slice none 0 0, .agg #[.string (⟨#[115]⟩ : ByteArray), .string (⟨#[116]⟩ : ByteArray), .slice none 0 0, .slice none 0 0]] rfl (by (try simp only [List.map_toArray, List.map_cons, List.map_nil]); first | done | rfl | (simp only [List.length_drop, List.length_take]; rfl)) ?_; (refine (evcode_PutG.calls _ _ ([] : List Int) (⟨#[115]⟩ : ByteArray) (⟨#[116]⟩ : ByteArray) _ _ ([] : List ByteArray) _ _ ([] : List (S35)) t135 t138 _ ?side1 ?side2 ?side3 ?side4 ?side5 ?side6 A1.out).mono ?_); (case side1 => exact Kd.C_nil _ _); (case side2 => exact Nat.le_refl _); (case side3 => exact Kd.C_nil _ _); (case side4 => exact Nat.le_refl _); (case side5 => exact Kd.C_nil _ _); (case side6 => exact Nat.le_refl _); rintro e w3 ⟨v136, rfl, ho0, hb⟩; refine ⟨_, rfl, ?_⟩; have n0_ := Aside0.mk (Kd.R_lower ho0 (below_size (by repeat (first | (with_reducible first | exact HB.out | apply below_alloc | apply pw_below_drewN | apply below_drew1) | exact HB.out)))); have n1_ := Aside0.mk (below_step (by repeat (first | (with_reducible first | exact HB.out | apply below_alloc | apply pw_below_drewN | apply below_drew1) | exact HB.out)) hb); clear HB; have HO137 := n0_; have HB := n1_; clear n0_ n1_; (try clear hb); (try clear hb2); (try clear hk); (try clear hi); (try clear ho0); have hcv4 := own_string (P := Try.prog) Try.underlying22 Try.underlying5 Try.underlying9 (Kd.own_of_R HO137.out)))
    go_ret
    exact ⟨by first | rfl | (simp [errW_none, errW_some] <;> rfl) | (simp [*, errW_none, errW_some] <;> rfl), by repeat (first | (with_reducible first | exact HB.out | apply below_alloc | apply pw_below_drewN | apply below_drew1) | exact HB.out)⟩
  · rw [if_neg c2] at H
    have c2b0 : ((strOfNums t135).toList == ([2, 115, 2, 116, 0, 0] : List UInt8)) = false := beq_eq_false_iff_ne.mpr c2
    have c2b1 : ((strOfNums t135).toList != ([2, 115, 2, 116, 0, 0] : List UInt8)) = true := bne_iff_ne.mpr c2
    obtain rfl := Option.some.inj H
    go_enter Try.func9, Try.ntmps9
    go_wp2_with (first | ((with_reducible refine gate_callee (f := 10) rfl ?_); refine goesL_ (some 5) rfl rfl Try.func10 (by kernel_rfl) rfl #[.slice none 0 0, .agg #[.string (⟨#[115]⟩ : ByteArray), .string (⟨#[116]⟩ : ByteArray), .slice none 0 0, .slice none 0 0]] rfl (by (try simp only [List.map_toArray, List.map_cons, List.map_nil]); first | done | rfl | (simp only [List.length_drop, List.length_take]; rfl)) ?_; (refine (evcode_PutG.calls _ _ ([] : List Int) (⟨#[115]⟩ : ByteArray) (⟨#[116]⟩ : ByteArray) _ _ ([] : List ByteArray) _ _ ([] : List (S35)) t135 t138 _ ?side1 ?side2 ?side3 ?side4 ?side5 ?side6 A1.out).mono ?_); (case side1 => exact Kd.C_nil _ _); (case side2 => exact Nat.le_refl _); (case side3 => exact Kd.C_nil _ _); (case side4 => exact Nat.le_refl _); (case side5 => exact Kd.C_nil _ _); (case side6 => exact Nat.le_refl _); rintro e w5 ⟨v136, rfl, ho0, hb⟩; refine ⟨_, rfl, ?_⟩; have n0_ := Aside0.mk (Kd.R_lower ho0 (below_size (by repeat (first | (with_reducible first | exact HB.out | apply below_alloc | apply pw_below_drewN | apply below_drew1) | exact HB.out)))); have n1_ := Aside0.mk (below_step (by repeat (first | (with_reducible first | exact HB.out | apply below_alloc | apply pw_below_drewN | apply below_drew1) | exact HB.out)) hb); clear HB; have HO137 := n0_; have HB := n1_; clear n0_ n1_; (try clear hb); (try clear hb2); (try clear hk); (try clear hi); (try clear ho0); have hcv6 := own_string (P := Try.prog) Try.underlying22 Try.underlying5 Try.underlying9 (Kd.own_of_R HO137.out)))
    go_ret
    exact ⟨by first | rfl | (simp [errW_none, errW_some] <;> rfl) | (simp [*, errW_none, errW_some] <;> rfl), by repeat (first | (with_reducible first | exact HB.out | apply below_alloc | apply pw_below_drewN | apply below_drew1) | exact HB.out)⟩

end Go.Proofs.Ytmnidohgnnpeiaa.Prt
namespace Go.Proofs.Ytmnidohgnnpeiaa.Prt
open Go.RowKit Go.Proofs.YtmnidohgnnpeiaaW.PrintWords Go.Proofs.YtmnidohgnnpeiaaW.PrintLast Go.Proofs.YtmnidohgnnpeiaaW.PrintMore
attribute [local go_sem] max2_int min2_int max_two min_two max_three min_three max_four min_four   -- for this text's walks alone
set_option linter.unusedVariables false
set_option linter.unusedSimpArgs false

/-! ### registrarlaw05_few: function 11 -/
def registrarlaw05_few.f (a0_0 : ByteArray) (a0_1 : ByteArray) (l0_2 : List ByteArray) (l0_3 : List (S35)) : Option (ByteArray × ByteArray × List ByteArray × (List (S35))) := if (l0_2.length : Int) > 12 then (if 12 ≤ (l0_2.length : Int) then ((some (l0_2.take 12 : List ByteArray)).bind fun y141 => (if (l0_3.length : Int) > 12 then (if 12 ≤ (l0_3.length : Int) then (some (a0_0, a0_1, y141, (l0_3.take 12))) else (none)) else (some (a0_0, a0_1, y141, l0_3)))) else (none)) else (if (l0_3.length : Int) > 12 then (if 12 ≤ (l0_3.length : Int) then (some (a0_0, a0_1, l0_2, (l0_3.take 12))) else (none)) else (some (a0_0, a0_1, l0_2, l0_3)))
set_option maxHeartbeats 8000000 in
set_option maxRecDepth 100000 in
theorem registrarlaw05_few.calls (a0_0 : ByteArray) (a0_1 : ByteArray) (P0_2_ : Nat → Prop) (A0_2 : Option Addr) (c0_2 : Nat) (l0_2 : List ByteArray) (P0_3_ : Nat → Prop) (A0_3 : Option Addr) (c0_3 : Nat) (l0_3 : List (S35)) (r1 : ByteArray) (r2 : ByteArray) (r3 : List ByteArray) (r4 : List (S35)) (w : World) (hs0_2 : Kd.V Kd.string 9 w w.heap.size (fun k_ => P0_2_ k_) (.slice A0_2 l0_2.length c0_2) l0_2) (hs0_3 : Kd.V k35 35 w w.heap.size (fun k_ => P0_3_ k_) (.slice A0_3 l0_3.length c0_3) l0_3) (h : registrarlaw05_few.f a0_0 a0_1 l0_2 l0_3 = some (r1, r2, r3, r4)) :
    Calls Try.prog 11 #[.agg #[.string a0_0, .string a0_1, .slice A0_2 l0_2.length c0_2, .slice A0_3 l0_3.length c0_3]] w fun e w' => ∃ v2_ v3_ : Value, e = .returned (.agg #[.string r1, .string r2, v2_, v3_]) ∧ Kd.V Kd.string 9 w' w.heap.size (fun k_ => ((P0_2_ k_ ∨ P0_3_ k_) ∨ w.heap.size ≤ k_)) v2_ r3 ∧ Kd.V k35 35 w' w.heap.size (fun k_ => ((P0_2_ k_ ∨ P0_3_ k_) ∨ w.heap.size ≤ k_)) v3_ r4 ∧ Below w.heap.size w w' := by
  have hu26 := Try.underlying26
  have HO0_2 := Aside0.mk (show Kd.V Kd.string 9 w w.heap.size (fun k_ => ((P0_2_ k_ ∨ P0_3_ k_) ∨ w.heap.size ≤ k_)) (.slice A0_2 l0_2.length c0_2) l0_2 from Kd.V_mono hs0_2 (fun k_ hk => .inl (.inl hk)))
  have HO0_3 := Aside0.mk (show Kd.V k35 35 w w.heap.size (fun k_ => ((P0_2_ k_ ∨ P0_3_ k_) ∨ w.heap.size ≤ k_)) (.slice A0_3 l0_3.length c0_3) l0_3 from Kd.V_mono hs0_3 (fun k_ hk => .inl (.inr hk)))
  have HB := Aside0.mk (Below.refl w.heap.size w)
  have H : (if (l0_2.length : Int) > 12 then (if 12 ≤ (l0_2.length : Int) then ((some (l0_2.take 12 : List ByteArray)).bind fun y141 => (if (l0_3.length : Int) > 12 then (if 12 ≤ (l0_3.length : Int) then (some (a0_0, a0_1, y141, (l0_3.take 12))) else (none)) else (some (a0_0, a0_1, y141, l0_3)))) else (none)) else (if (l0_3.length : Int) > 12 then (if 12 ≤ (l0_3.length : Int) then (some (a0_0, a0_1, l0_2, (l0_3.take 12))) else (none)) else (some (a0_0, a0_1, l0_2, l0_3)))) = some (r1, r2, r3, r4) := h
  clear h
  by_cases c2 : (l0_2.length : Int) > 12
  · rw [if_pos c2] at H
    have c2b0 : decide (12 < (l0_2.length : Int)) = true := decide_eq_true c2
    have c2b1 : decide (12 < l0_2.length) = true := decide_eq_true (by omega)
    clear c2
    by_cases c3 : 12 ≤ (l0_2.length : Int)
    · rw [if_pos c3] at H
      have c3b0 := eq_true c3
      have c3b1 : decide (12 ≤ (l0_2.length : Int)) = true := decide_eq_true c3
      clear c3
      obtain ⟨y141, hy141⟩ : ∃ y_ : List ByteArray, y_ = (l0_2.take 12) := ⟨_, rfl⟩
      replace H : (if (l0_3.length : Int) > 12 then (if 12 ≤ (l0_3.length : Int) then (some (a0_0, a0_1, y141, (l0_3.take 12))) else (none)) else (some (a0_0, a0_1, y141, l0_3))) = some (r1, r2, r3, r4) := by first | (rw [hy141]; with_reducible exact H) | (have H2_ := (Option.bind_some _ _).symm.trans H; rw [hy141]; with_reducible exact H2_) | (have H2_ := (Option.bind_some _ _).symm.trans H; with_reducible exact H2_) | with_reducible exact H | (rw [hy141]; exact H) | exact H
      have Ny141 := Aside0.mk hy141
      clear hy141
      by_cases c4 : (l0_3.length : Int) > 12
      · rw [if_pos c4] at H
        have c4b0 : decide (12 < (l0_3.length : Int)) = true := decide_eq_true c4
        have c4b1 : decide (12 < l0_3.length) = true := decide_eq_true (by omega)
        clear c4
        by_cases c5 : 12 ≤ (l0_3.length : Int)
        · rw [if_pos c5] at H
          have c5b0 := eq_true c5
          have c5b1 : decide (12 ≤ (l0_3.length : Int)) = true := decide_eq_true c5
          clear c5
          obtain ⟨y146, hy146⟩ : ∃ y_ : List (S35), y_ = (l0_3.take 12) := ⟨_, rfl⟩
          replace H : (some (a0_0, a0_1, y141, y146)) = some (r1, r2, r3, r4) := by first | (rw [hy146]; with_reducible exact H) | (have H2_ := (Option.bind_some _ _).symm.trans H; rw [hy146]; with_reducible exact H2_) | (have H2_ := (Option.bind_some _ _).symm.trans H; with_reducible exact H2_) | with_reducible exact H | (rw [hy146]; exact H) | exact H
          have Ny146 := Aside0.mk hy146
          clear hy146
          simp only [Option.some.injEq, Prod.mk.injEq] at H
          obtain ⟨rfl, rfl, rfl, rfl⟩ := H
          go_enter Try.func11, Try.ntmps11
          go_wp2_with (first | ((with_reducible refine gate_dst (N := 1) rfl ?_); refine box_event ?hg (N := 1) ?hd (cs := #[.string a0_0, .string a0_1, .slice A0_2 l0_2.length c0_2, .slice A0_3 l0_3.length c0_3]) (t := 26) ?hr ?_; (case hd => rfl); (case hg => rfl); (case hr => first | (go_simp; done) | (go_simp; rfl)); intro gb139 hg w6 hbox hb; have n0_ := Aside0.mk (Kd.V_below (Kd.V_elderB (by (with_reducible repeat (first | apply Kd.V_alloc | apply Kd.V_drewN | apply Kd.V_drew)); exact HO0_2.out) gb139 (Nat.le_of_eq hg.symm)) hb); have n1_ := Aside0.mk (Kd.V_below (Kd.V_elderB (by (with_reducible repeat (first | apply Kd.V_alloc | apply Kd.V_drewN | apply Kd.V_drew)); exact HO0_3.out) gb139 (Nat.le_of_eq hg.symm)) hb); have n2_ := Aside0.mk (below_step (by repeat (first | (with_reducible first | exact HB.out | apply below_alloc | apply pw_below_drewN | apply below_drew1) | exact HB.out)) hb); have n3_ := Aside0.mk (hbox); have n4_ := Aside0.mk ((by rw [hg]; exact (below_size (by repeat (first | (with_reducible first | exact HB.out | apply below_alloc | apply pw_below_drewN | apply below_drew1) | exact HB.out))) : w.heap.size ≤ gb139)); have n5_ := Aside0.mk ((by rw [hg]; exact (below_size (by repeat (first | (with_reducible first | exact HB.out | apply below_alloc | apply pw_below_drewN | apply below_drew1) | exact HB.out))) : w.heap.size ≤ gb139)); clear HO0_2; clear HO0_3; clear HB; have HO0_2 := n0_; have HO0_3 := n1_; have HB := n2_; have BK139 := n3_; have GW139 := n4_; have GE139 := n5_; clear n0_ n1_ n2_ n3_ n4_ n5_; clear hb hbox hg) | ((with_reducible refine gate_dst (N := 2) rfl ?_); refine box_event ?hg (N := 2) ?hd (cs := #[.string (⟨#[]⟩ : ByteArray), .string (⟨#[]⟩ : ByteArray), .slice none 0 0, .slice none 0 0]) (t := 26) ?hr ?_; (case hd => rfl); (case hg => rfl); (case hr => first | (go_simp; done) | (go_simp; rfl)); intro gb140 hg w7 hbox hb; have n0_ := Aside0.mk (Kd.V_below (Kd.V_elderB (by (with_reducible repeat (first | apply Kd.V_alloc | apply Kd.V_drewN | apply Kd.V_drew)); exact HO0_2.out) gb140 (Nat.le_of_eq hg.symm)) hb); have n1_ := Aside0.mk (Kd.V_below (Kd.V_elderB (by (with_reducible repeat (first | apply Kd.V_alloc | apply Kd.V_drewN | apply Kd.V_drew)); exact HO0_3.out) gb140 (Nat.le_of_eq hg.symm)) hb); have n2_ := Aside0.mk (blk_below (g := gb139) (o := .cells #[.string a0_0, .string a0_1, .slice A0_2 l0_2.length c0_2, .slice A0_3 l0_3.length c0_3] 26 (0, 0)) (by (with_reducible repeat (first | refine blk_drewN ?_ _ | refine blk_drew ?_ | refine blk_alloc ?_ _)); exact BK139.out) hb); have n3_ := Aside0.mk (below_step (by repeat (first | (with_reducible first | exact HB.out | apply below_alloc | apply pw_below_drewN | apply below_drew1 | refine below_set ?_ GE139.out) | exact HB.out)) hb); have n4_ := Aside0.mk (hbox); have n5_ := Aside0.mk ((by rw [hg]; exact (below_size (by repeat (first | (with_reducible first | exact HB.out | apply below_alloc | apply pw_below_drewN | apply below_drew1 | refine below_set ?_ GE139.out) | exact HB.out))) : w.heap.size ≤ gb140)); have n6_ := Aside0.mk ((by rw [hg]; exact (below_size (by repeat (first | (with_reducible first | exact HB.out | apply below_alloc | apply pw_below_drewN | apply below_drew1 | refine below_set ?_ GE139.out) | exact HB.out))) : w.heap.size ≤ gb140)); have n7_ := Aside0.mk ((by rw [hg]; exact Nat.ne_of_lt (blk_lt (g := gb139) (o := .cells #[.string a0_0, .string a0_1, .slice A0_2 l0_2.length c0_2, .slice A0_3 l0_3.length c0_3] 26 (0, 0)) (by (with_reducible repeat (first | refine blk_drewN ?_ _ | refine blk_drew ?_ | refine blk_alloc ?_ _)); exact BK139.out)) : gb139 ≠ gb140)); have n8_ := Aside0.mk ((by rw [hg]; exact Nat.ne_of_gt (blk_lt (g := gb139) (o := .cells #[.string a0_0, .string a0_1, .slice A0_2 l0_2.length c0_2, .slice A0_3 l0_3.length c0_3] 26 (0, 0)) (by (with_reducible repeat (first | refine blk_drewN ?_ _ | refine blk_drew ?_ | refine blk_alloc ?_ _)); exact BK139.out)) : gb140 ≠ gb139)); clear HO0_2; clear HO0_3; clear BK139; clear HB; have HO0_2 := n0_; have HO0_3 := n1_; have BK139 := n2_; have HB := n3_; have BK140 := n4_; have GW140 := n5_; have GE140 := n6_; have NB139_140 := n7_; have NB140_139 := n8_; clear n0_ n1_ n2_ n3_ n4_ n5_ n6_ n7_ n8_; clear hb hbox hg; have hnb8 := NB139_140.out; have hnc8 := NB140_139.out; have hcz9_0 : w7.cell? ⟨gb139, 0, none⟩ = some (.string a0_0) := (blk_cell BK139.out 0).trans rfl; have hcz9_1 : w7.cell? ⟨gb139, 1, none⟩ = some (.string a0_1) := (blk_cell BK139.out 1).trans rfl; have hcz9_2 : w7.cell? ⟨gb139, 2, none⟩ = some (.slice A0_2 l0_2.length c0_2) := (blk_cell BK139.out 2).trans rfl; have hcz9_3 : w7.cell? ⟨gb139, 3, none⟩ = some (.slice A0_3 l0_3.length c0_3) := (blk_cell BK139.out 3).trans rfl; have hfz9_0 := blk_frozen BK139.out 0; have hfz9_1 := blk_frozen BK139.out 1; have hfz9_2 := blk_frozen BK139.out 2; have hfz9_3 := blk_frozen BK139.out 3; have q10 : (12 : Int) ≤ ((l0_2.length : Int) : Int) := of_decide_eq_true (by first | (with_reducible assumption) | assumption); obtain ⟨i010, hi010, _, hsz10, _⟩ := info_parts info9; have hroom10 : l0_2.length ≤ c0_2 := (Kd.V_reads' HO0_2.out).2.1; have hC10 : Kd.F Kd.string _ _ A0_2 l0_2.length l0_2 := (Kd.V_at (base := w.heap.size) HO0_2.out).2.2; have hcut10 := cut_to (P := Try.prog) 23 9 .i64 Try.underlying23 hi010 A0_2 l0_2.length c0_2 12 (by omega) q10 hroom10; have hr10 := Kd.F_take (m := 12) hC10 (by omega); have hy10 : y141.length = (12 : Int).toNat := (by rw [Ny141.out, List.length_take]; omega); rw [← Ny141.out] at hr10; rw [← hy10] at hcut10; have HO145 := Aside0.mk (show Kd.V Kd.string 9 _ w.heap.size _ (.slice A0_2 y141.length c0_2) y141 from Kd.V_mk (by omega) hr10); have HC145 := Aside0.mk (show y141.length ≤ c0_2 from by omega); clear hr10 hC10 hroom10 hi010 hsz10; have KY10 := Aside0.mk hy10; clear hy10; replace q10 := eq_true q10) | ((with_reducible refine gate_store (t := 23) (p := 10) rfl ?_); refine store_event (t := 23) (p := 10) (v := ?vo_w11) (w1 := (w7.setCell ⟨gb139, 2, none⟩ (.slice A0_2 y141.length c0_2))) ?hg ?ho ?hn ?hr ?_; (case ho => rfl); (case hg => rfl); (case hn => rfl); (case hr => first | (go_simp; done) | (go_simp; rfl)); intro w11 hw; have n0_ : Aside0 (Kd.V Kd.string 9 w11 w.heap.size (fun k_ => ((P0_2_ k_ ∨ P0_3_ k_) ∨ w.heap.size ≤ k_) ∧ k_ ≠ gb139 ∧ k_ ≠ gb140) (.slice A0_2 l0_2.length c0_2) l0_2) := ⟨(by rw [hw]; exact (by (with_reducible repeat (first | apply Kd.V_alloc | apply Kd.V_drewN | apply Kd.V_drew)); exact Kd.V_mono (Kd.V_far (p := ⟨gb139, 2, none⟩) (Kd.V_mono HO0_2.out (fun k_ hk => (⟨hk, hk.1.2⟩ : _ ∧ k_ ≠ gb139))) (fun _ hk => hk.2) (.slice A0_2 y141.length c0_2)) (fun _ hk => ⟨hk.1.1.1, ⟨hk.1.1.2, hk.1.2⟩⟩)))⟩; have n1_ : Aside0 (Kd.V k35 35 w11 w.heap.size (fun k_ => ((P0_2_ k_ ∨ P0_3_ k_) ∨ w.heap.size ≤ k_) ∧ k_ ≠ gb139 ∧ k_ ≠ gb140) (.slice A0_3 l0_3.length c0_3) l0_3) := ⟨(by rw [hw]; exact (by (with_reducible repeat (first | apply Kd.V_alloc | apply Kd.V_drewN | apply Kd.V_drew)); exact Kd.V_mono (Kd.V_far (p := ⟨gb139, 2, none⟩) (Kd.V_mono HO0_3.out (fun k_ hk => (⟨hk, hk.1.2⟩ : _ ∧ k_ ≠ gb139))) (fun _ hk => hk.2) (.slice A0_2 y141.length c0_2)) (fun _ hk => ⟨hk.1.1.1, ⟨hk.1.1.2, hk.1.2⟩⟩)))⟩; have n2_ : Aside0 (Kd.V Kd.string 9 w11 w.heap.size (fun k_ => ((P0_2_ k_ ∨ P0_3_ k_) ∨ w.heap.size ≤ k_) ∧ k_ ≠ gb139 ∧ k_ ≠ gb140) (.slice A0_2 y141.length c0_2) y141) := ⟨(by rw [hw]; exact (by (with_reducible repeat (first | apply Kd.V_alloc | apply Kd.V_drewN | apply Kd.V_drew)); exact Kd.V_mono (Kd.V_far (p := ⟨gb139, 2, none⟩) (Kd.V_mono HO145.out (fun k_ hk => (⟨hk, hk.1.2⟩ : _ ∧ k_ ≠ gb139))) (fun _ hk => hk.2) (.slice A0_2 y141.length c0_2)) (fun _ hk => ⟨hk.1.1.1, ⟨hk.1.1.2, hk.1.2⟩⟩)))⟩; have n3_ : Aside0 (w11.heap[gb139]? = some (.cells #[.string a0_0, .string a0_1, .slice A0_2 y141.length c0_2, .slice A0_3 l0_3.length c0_3] 26 (0, 0))) := ⟨(by rw [hw]; exact (by (with_reducible repeat (first | refine blk_drewN ?_ _ | refine blk_drew ?_ | refine blk_alloc ?_ _)); refine blk_put (cs := #[.string a0_0, .string a0_1, .slice A0_2 l0_2.length c0_2, .slice A0_3 l0_3.length c0_3]) ?_ 2 _ rfl; (with_reducible repeat (first | refine blk_drewN ?_ _ | refine blk_drew ?_ | refine blk_alloc ?_ _)); exact BK139.out))⟩; have n4_ : Aside0 (w11.heap[gb140]? = some (.cells #[.string (⟨#[]⟩ : ByteArray), .string (⟨#[]⟩ : ByteArray), .slice none 0 0, .slice none 0 0] 26 (0, 0))) := ⟨(by rw [hw]; exact (by (with_reducible repeat (first | refine blk_drewN ?_ _ | refine blk_drew ?_ | refine blk_alloc ?_ _)); refine blk_far ?_ NB140_139.out _; (with_reducible repeat (first | refine blk_drewN ?_ _ | refine blk_drew ?_ | refine blk_alloc ?_ _)); exact BK140.out))⟩; have n5_ : Aside0 (Below w.heap.size w w11) := ⟨(by rw [hw]; exact (by repeat (first | (with_reducible first | exact HB.out | apply below_alloc | apply pw_below_drewN | apply below_drew1 | refine below_set ?_ GE139.out | refine below_set ?_ GE140.out) | exact HB.out)))⟩; clear hw; clear HO0_2; clear HO0_3; clear HO145; clear BK139; clear BK140; clear HB; have HO0_2 := n0_; have HO0_3 := n1_; have HO145 := n2_; have BK139 := n3_; have BK140 := n4_; have HB := n5_; clear n0_ n1_ n2_ n3_ n4_ n5_; have hcz12_0 : w11.cell? ⟨gb139, 0, none⟩ = some (.string a0_0) := (blk_cell BK139.out 0).trans rfl; have hcz12_1 : w11.cell? ⟨gb139, 1, none⟩ = some (.string a0_1) := (blk_cell BK139.out 1).trans rfl; have hcz12_2 : w11.cell? ⟨gb139, 2, none⟩ = some (.slice A0_2 y141.length c0_2) := (blk_cell BK139.out 2).trans rfl; have hcz12_3 : w11.cell? ⟨gb139, 3, none⟩ = some (.slice A0_3 l0_3.length c0_3) := (blk_cell BK139.out 3).trans rfl; have hfz12_0 := blk_frozen BK139.out 0; have hfz12_1 := blk_frozen BK139.out 1; have hfz12_2 := blk_frozen BK139.out 2; have hfz12_3 := blk_frozen BK139.out 3; have q13 : (12 : Int) ≤ ((l0_3.length : Int) : Int) := of_decide_eq_true (by first | (with_reducible assumption) | assumption); obtain ⟨i013, hi013, _, hsz13, _⟩ := info_parts info35; have hroom13 : l0_3.length ≤ c0_3 := (Kd.V_reads' HO0_3.out).2.1; have hC13 : Kd.F k35 _ _ A0_3 l0_3.length l0_3 := (Kd.V_at (base := w.heap.size) HO0_3.out).2.2; have hcut13 := cut_to (P := Try.prog) 24 35 .i64 Try.underlying24 hi013 A0_3 l0_3.length c0_3 12 (by omega) q13 hroom13; have hr13 := Kd.F_take (m := 12) hC13 (by omega); have hy13 : y146.length = (12 : Int).toNat := (by rw [Ny146.out, List.length_take]; omega); rw [← Ny146.out] at hr13; rw [← hy13] at hcut13; have HO150 := Aside0.mk (show Kd.V k35 35 _ w.heap.size _ (.slice A0_3 y146.length c0_3) y146 from Kd.V_mk (by omega) hr13); have HC150 := Aside0.mk (show y146.length ≤ c0_3 from by omega); clear hr13 hC13 hroom13 hi013 hsz13; have KY13 := Aside0.mk hy13; clear hy13; replace q13 := eq_true q13; have hcz14_0 : w11.cell? ⟨gb140, 0, none⟩ = some (.string (⟨#[]⟩ : ByteArray)) := (blk_cell BK140.out 0).trans rfl; have hcz14_1 : w11.cell? ⟨gb140, 1, none⟩ = some (.string (⟨#[]⟩ : ByteArray)) := (blk_cell BK140.out 1).trans rfl; have hcz14_2 : w11.cell? ⟨gb140, 2, none⟩ = some (.slice none 0 0) := (blk_cell BK140.out 2).trans rfl; have hcz14_3 : w11.cell? ⟨gb140, 3, none⟩ = some (.slice none 0 0) := (blk_cell BK140.out 3).trans rfl; have hfz14_0 := blk_frozen BK140.out 0; have hfz14_1 := blk_frozen BK140.out 1; have hfz14_2 := blk_frozen BK140.out 2; have hfz14_3 := blk_frozen BK140.out 3))
          refine bodyPost_ret (results_cell_row rfl _ _ gb140 26 #[.string a0_0, .string a0_1, .slice A0_2 y141.length c0_2, .slice A0_3 y146.length c0_3] (0, 0) _ rfl (by (with_reducible repeat (first | refine blk_drewN ?_ _ | refine blk_drew ?_ | refine blk_alloc ?_ _)); refine blk_put (cs := #[.string a0_0, .string a0_1, .slice A0_2 y141.length c0_2, .slice none 0 0]) ?_ 3 _ rfl; (with_reducible repeat (first | refine blk_drewN ?_ _ | refine blk_drew ?_ | refine blk_alloc ?_ _)); refine blk_put (cs := #[.string a0_0, .string a0_1, .slice none 0 0, .slice none 0 0]) ?_ 2 _ rfl; (with_reducible repeat (first | refine blk_drewN ?_ _ | refine blk_drew ?_ | refine blk_alloc ?_ _)); refine blk_put (cs := #[.string a0_0, .string (⟨#[]⟩ : ByteArray), .slice none 0 0, .slice none 0 0]) ?_ 1 _ rfl; (with_reducible repeat (first | refine blk_drewN ?_ _ | refine blk_drew ?_ | refine blk_alloc ?_ _)); refine blk_put (cs := #[.string (⟨#[]⟩ : ByteArray), .string (⟨#[]⟩ : ByteArray), .slice none 0 0, .slice none 0 0]) ?_ 0 _ rfl; (with_reducible repeat (first | refine blk_drewN ?_ _ | refine blk_drew ?_ | refine blk_alloc ?_ _)); refine blk_far ?_ NB140_139.out _; (with_reducible repeat (first | refine blk_drewN ?_ _ | refine blk_drew ?_ | refine blk_alloc ?_ _)); exact BK140.out) Try.underlying26 rfl (by kernel_rfl)) rfl ?_
          exact ⟨_, _, by first | rfl | (simp [errW_none, errW_some] <;> rfl) | (simp [*, errW_none, errW_some] <;> rfl), by (with_reducible repeat (first | apply Kd.V_alloc | apply Kd.V_drewN | apply Kd.V_drew)); exact Kd.V_mono (Kd.V_far (p := ⟨gb140, 3, none⟩) (Kd.V_far (p := ⟨gb140, 2, none⟩) (Kd.V_far (p := ⟨gb140, 1, none⟩) (Kd.V_far (p := ⟨gb140, 0, none⟩) (Kd.V_far (p := ⟨gb139, 3, none⟩) (Kd.V_mono (Kd.V_mono HO145.out (fun k_ hk => (⟨hk, hk.2.1⟩ : _ ∧ k_ ≠ gb139))) (fun k_ hk => (⟨hk, hk.1.2.2⟩ : _ ∧ k_ ≠ gb140))) (fun _ hk => hk.1.2) (.slice A0_3 y146.length c0_3)) (fun _ hk => hk.2) (.string a0_0)) (fun _ hk => hk.2) (.string a0_1)) (fun _ hk => hk.2) (.slice A0_2 y141.length c0_2)) (fun _ hk => hk.2) (.slice A0_3 y146.length c0_3)) (fun _ hk => hk.1.1.1), by (with_reducible repeat (first | apply Kd.V_alloc | apply Kd.V_drewN | apply Kd.V_drew)); exact Kd.V_mono (Kd.V_far (p := ⟨gb140, 3, none⟩) (Kd.V_far (p := ⟨gb140, 2, none⟩) (Kd.V_far (p := ⟨gb140, 1, none⟩) (Kd.V_far (p := ⟨gb140, 0, none⟩) (Kd.V_far (p := ⟨gb139, 3, none⟩) (Kd.V_mono (Kd.V_mono HO150.out (fun k_ hk => (⟨hk, hk.2.1⟩ : _ ∧ k_ ≠ gb139))) (fun k_ hk => (⟨hk, hk.1.2.2⟩ : _ ∧ k_ ≠ gb140))) (fun _ hk => hk.1.2) (.slice A0_3 y146.length c0_3)) (fun _ hk => hk.2) (.string a0_0)) (fun _ hk => hk.2) (.string a0_1)) (fun _ hk => hk.2) (.slice A0_2 y141.length c0_2)) (fun _ hk => hk.2) (.slice A0_3 y146.length c0_3)) (fun _ hk => hk.1.1.1), by repeat (first | (with_reducible first | exact HB.out | apply below_alloc | apply pw_below_drewN | apply below_drew1 | refine below_set ?_ GE139.out | refine below_set ?_ GE140.out) | exact HB.out)⟩
        · rw [if_neg c5] at H
          exact absurd H (by simp)
      · rw [if_neg c4] at H
        have c4b0 : decide (12 < (l0_3.length : Int)) = false := decide_eq_false c4
        have c4b1 : decide (12 < l0_3.length) = false := decide_eq_false (by omega)
        clear c4
        simp only [Option.some.injEq, Prod.mk.injEq] at H
        obtain ⟨rfl, rfl, rfl, rfl⟩ := H
        go_enter Try.func11, Try.ntmps11
        go_wp2_with (first | ((with_reducible refine gate_dst (N := 1) rfl ?_); refine box_event ?hg (N := 1) ?hd (cs := #[.string a0_0, .string a0_1, .slice A0_2 l0_2.length c0_2, .slice A0_3 l0_3.length c0_3]) (t := 26) ?hr ?_; (case hd => rfl); (case hg => rfl); (case hr => first | (go_simp; done) | (go_simp; rfl)); intro gb139 hg w15 hbox hb; have n0_ := Aside0.mk (Kd.V_below (Kd.V_elderB (by (with_reducible repeat (first | apply Kd.V_alloc | apply Kd.V_drewN | apply Kd.V_drew)); exact HO0_2.out) gb139 (Nat.le_of_eq hg.symm)) hb); have n1_ := Aside0.mk (Kd.V_below (Kd.V_elderB (by (with_reducible repeat (first | apply Kd.V_alloc | apply Kd.V_drewN | apply Kd.V_drew)); exact HO0_3.out) gb139 (Nat.le_of_eq hg.symm)) hb); have n2_ := Aside0.mk (below_step (by repeat (first | (with_reducible first | exact HB.out | apply below_alloc | apply pw_below_drewN | apply below_drew1) | exact HB.out)) hb); have n3_ := Aside0.mk (hbox); have n4_ := Aside0.mk ((by rw [hg]; exact (below_size (by repeat (first | (with_reducible first | exact HB.out | apply below_alloc | apply pw_below_drewN | apply below_drew1) | exact HB.out))) : w.heap.size ≤ gb139)); have n5_ := Aside0.mk ((by rw [hg]; exact (below_size (by repeat (first | (with_reducible first | exact HB.out | apply below_alloc | apply pw_below_drewN | apply below_drew1) | exact HB.out))) : w.heap.size ≤ gb139)); clear HO0_2; clear HO0_3; clear HB; have HO0_2 := n0_; have HO0_3 := n1_; have HB := n2_; have BK139 := n3_; have GW139 := n4_; have GE139 := n5_; clear n0_ n1_ n2_ n3_ n4_ n5_; clear hb hbox hg) | ((with_reducible refine gate_dst (N := 2) rfl ?_); refine box_event ?hg (N := 2) ?hd (cs := #[.string (⟨#[]⟩ : ByteArray), .string (⟨#[]⟩ : ByteArray), .slice none 0 0, .slice none 0 0]) (t := 26) ?hr ?_; (case hd => rfl); (case hg => rfl); (case hr => first | (go_simp; done) | (go_simp; rfl)); intro gb140 hg w16 hbox hb; have n0_ := Aside0.mk (Kd.V_below (Kd.V_elderB (by (with_reducible repeat (first | apply Kd.V_alloc | apply Kd.V_drewN | apply Kd.V_drew)); exact HO0_2.out) gb140 (Nat.le_of_eq hg.symm)) hb); have n1_ := Aside0.mk (Kd.V_below (Kd.V_elderB (by (with_reducible repeat (first | apply Kd.V_alloc | apply Kd.V_drewN | apply Kd.V_drew)); exact HO0_3.out) gb140 (Nat.le_of_eq hg.symm)) hb); have n2_ := Aside0.mk (blk_below (g := gb139) (o := .cells #[.string a0_0, .string a0_1, .slice A0_2 l0_2.length c0_2, .slice A0_3 l0_3.length c0_3] 26 (0, 0)) (by (with_reducible repeat (first | refine blk_drewN ?_ _ | refine blk_drew ?_ | refine blk_alloc ?_ _)); exact BK139.out) hb); have n3_ := Aside0.mk (below_step (by repeat (first | (with_reducible first | exact HB.out | apply below_alloc | apply pw_below_drewN | apply below_drew1 | refine below_set ?_ GE139.out) | exact HB.out)) hb); have n4_ := Aside0.mk (hbox); have n5_ := Aside0.mk ((by rw [hg]; exact (below_size (by repeat (first | (with_reducible first | exact HB.out | apply below_alloc | apply pw_below_drewN | apply below_drew1 | refine below_set ?_ GE139.out) | exact HB.out))) : w.heap.size ≤ gb140)); have n6_ := Aside0.mk ((by rw [hg]; exact (below_size (by repeat (first | (with_reducible first | exact HB.out | apply below_alloc | apply pw_below_drewN | apply below_drew1 | refine below_set ?_ GE139.out) | exact HB.out))) : w.heap.size ≤ gb140)); have n7_ := Aside0.mk ((by rw [hg]; exact Nat.ne_of_lt (blk_lt (g := gb139) (o := .cells #[.string a0_0, .string a0_1, .slice A0_2 l0_2.length c0_2, .slice A0_3 l0_3.length c0_3] 26 (0, 0)) (by (with_reducible repeat (first | refine blk_drewN ?_ _ | refine blk_drew ?_ | refine blk_alloc ?_ _)); exact BK139.out)) : gb139 ≠ gb140)); have n8_ := Aside0.mk ((by rw [hg]; exact Nat.ne_of_gt (blk_lt (g := gb139) (o := .cells #[.string a0_0, .string a0_1, .slice A0_2 l0_2.length c0_2, .slice A0_3 l0_3.length c0_3] 26 (0, 0)) (by (with_reducible repeat (first | refine blk_drewN ?_ _ | refine blk_drew ?_ | refine blk_alloc ?_ _)); exact BK139.out)) : gb140 ≠ gb139)); clear HO0_2; clear HO0_3; clear BK139; clear HB; have HO0_2 := n0_; have HO0_3 := n1_; have BK139 := n2_; have HB := n3_; have BK140 := n4_; have GW140 := n5_; have GE140 := n6_; have NB139_140 := n7_; have NB140_139 := n8_; clear n0_ n1_ n2_ n3_ n4_ n5_ n6_ n7_ n8_; clear hb hbox hg; have hnb17 := NB139_140.out; have hnc17 := NB140_139.out; have hcz18_0 : w16.cell? ⟨gb139, 0, none⟩ = some (.string a0_0) := (blk_cell BK139.out 0).trans rfl; have hcz18_1 : w16.cell? ⟨gb139, 1, none⟩ = some (.string a0_1) := (blk_cell BK139.out 1).trans rfl; have hcz18_2 : w16.cell? ⟨gb139, 2, none⟩ = some (.slice A0_2 l0_2.length c0_2) := (blk_cell BK139.out 2).trans rfl; have hcz18_3 : w16.cell? ⟨gb139, 3, none⟩ = some (.slice A0_3 l0_3.length c0_3) := (blk_cell BK139.out 3).trans rfl; have hfz18_0 := blk_frozen BK139.out 0; have hfz18_1 := blk_frozen BK139.out 1; have hfz18_2 := blk_frozen BK139.out 2; have hfz18_3 := blk_frozen BK139.out 3; have q19 : (12 : Int) ≤ ((l0_2.length : Int) : Int) := of_decide_eq_true (by first | (with_reducible assumption) | assumption); obtain ⟨i019, hi019, _, hsz19, _⟩ := info_parts info9; have hroom19 : l0_2.length ≤ c0_2 := (Kd.V_reads' HO0_2.out).2.1; have hC19 : Kd.F Kd.string _ _ A0_2 l0_2.length l0_2 := (Kd.V_at (base := w.heap.size) HO0_2.out).2.2; have hcut19 := cut_to (P := Try.prog) 23 9 .i64 Try.underlying23 hi019 A0_2 l0_2.length c0_2 12 (by omega) q19 hroom19; have hr19 := Kd.F_take (m := 12) hC19 (by omega); have hy19 : y141.length = (12 : Int).toNat := (by rw [Ny141.out, List.length_take]; omega); rw [← Ny141.out] at hr19; rw [← hy19] at hcut19; have HO145 := Aside0.mk (show Kd.V Kd.string 9 _ w.heap.size _ (.slice A0_2 y141.length c0_2) y141 from Kd.V_mk (by omega) hr19); have HC145 := Aside0.mk (show y141.length ≤ c0_2 from by omega); clear hr19 hC19 hroom19 hi019 hsz19; have KY19 := Aside0.mk hy19; clear hy19; replace q19 := eq_true q19; have hcz20_0 : w16.cell? ⟨gb140, 0, none⟩ = some (.string (⟨#[]⟩ : ByteArray)) := (blk_cell BK140.out 0).trans rfl; have hcz20_1 : w16.cell? ⟨gb140, 1, none⟩ = some (.string (⟨#[]⟩ : ByteArray)) := (blk_cell BK140.out 1).trans rfl; have hcz20_2 : w16.cell? ⟨gb140, 2, none⟩ = some (.slice none 0 0) := (blk_cell BK140.out 2).trans rfl; have hcz20_3 : w16.cell? ⟨gb140, 3, none⟩ = some (.slice none 0 0) := (blk_cell BK140.out 3).trans rfl; have hfz20_0 := blk_frozen BK140.out 0; have hfz20_1 := blk_frozen BK140.out 1; have hfz20_2 := blk_frozen BK140.out 2; have hfz20_3 := blk_frozen BK140.out 3))
        refine bodyPost_ret (results_cell_row rfl _ _ gb140 26 #[.string a0_0, .string a0_1, .slice A0_2 y141.length c0_2, .slice A0_3 l0_3.length c0_3] (0, 0) _ rfl (by (with_reducible repeat (first | refine blk_drewN ?_ _ | refine blk_drew ?_ | refine blk_alloc ?_ _)); refine blk_put (cs := #[.string a0_0, .string a0_1, .slice A0_2 y141.length c0_2, .slice none 0 0]) ?_ 3 _ rfl; (with_reducible repeat (first | refine blk_drewN ?_ _ | refine blk_drew ?_ | refine blk_alloc ?_ _)); refine blk_put (cs := #[.string a0_0, .string a0_1, .slice none 0 0, .slice none 0 0]) ?_ 2 _ rfl; (with_reducible repeat (first | refine blk_drewN ?_ _ | refine blk_drew ?_ | refine blk_alloc ?_ _)); refine blk_put (cs := #[.string a0_0, .string (⟨#[]⟩ : ByteArray), .slice none 0 0, .slice none 0 0]) ?_ 1 _ rfl; (with_reducible repeat (first | refine blk_drewN ?_ _ | refine blk_drew ?_ | refine blk_alloc ?_ _)); refine blk_put (cs := #[.string (⟨#[]⟩ : ByteArray), .string (⟨#[]⟩ : ByteArray), .slice none 0 0, .slice none 0 0]) ?_ 0 _ rfl; (with_reducible repeat (first | refine blk_drewN ?_ _ | refine blk_drew ?_ | refine blk_alloc ?_ _)); refine blk_far ?_ NB140_139.out _; (with_reducible repeat (first | refine blk_drewN ?_ _ | refine blk_drew ?_ | refine blk_alloc ?_ _)); exact BK140.out) Try.underlying26 rfl (by kernel_rfl)) rfl ?_
        exact ⟨_, _, by first | rfl | (simp [errW_none, errW_some] <;> rfl) | (simp [*, errW_none, errW_some] <;> rfl), by (with_reducible repeat (first | apply Kd.V_alloc | apply Kd.V_drewN | apply Kd.V_drew)); exact Kd.V_mono (Kd.V_far (p := ⟨gb140, 3, none⟩) (Kd.V_far (p := ⟨gb140, 2, none⟩) (Kd.V_far (p := ⟨gb140, 1, none⟩) (Kd.V_far (p := ⟨gb140, 0, none⟩) (Kd.V_far (p := ⟨gb139, 2, none⟩) (Kd.V_mono (Kd.V_mono HO145.out (fun k_ hk => (⟨hk, hk.1.2⟩ : _ ∧ k_ ≠ gb139))) (fun k_ hk => (⟨hk, hk.1.2⟩ : _ ∧ k_ ≠ gb140))) (fun _ hk => hk.1.2) (.slice A0_2 y141.length c0_2)) (fun _ hk => hk.2) (.string a0_0)) (fun _ hk => hk.2) (.string a0_1)) (fun _ hk => hk.2) (.slice A0_2 y141.length c0_2)) (fun _ hk => hk.2) (.slice A0_3 l0_3.length c0_3)) (fun _ hk => hk.1.1.1.1), by (with_reducible repeat (first | apply Kd.V_alloc | apply Kd.V_drewN | apply Kd.V_drew)); exact Kd.V_mono (Kd.V_far (p := ⟨gb140, 3, none⟩) (Kd.V_far (p := ⟨gb140, 2, none⟩) (Kd.V_far (p := ⟨gb140, 1, none⟩) (Kd.V_far (p := ⟨gb140, 0, none⟩) (Kd.V_far (p := ⟨gb139, 2, none⟩) (Kd.V_mono (Kd.V_mono HO0_3.out (fun k_ hk => (⟨hk, hk.1.2⟩ : _ ∧ k_ ≠ gb139))) (fun k_ hk => (⟨hk, hk.1.2⟩ : _ ∧ k_ ≠ gb140))) (fun _ hk => hk.1.2) (.slice A0_2 y141.length c0_2)) (fun _ hk => hk.2) (.string a0_0)) (fun _ hk => hk.2) (.string a0_1)) (fun _ hk => hk.2) (.slice A0_2 y141.length c0_2)) (fun _ hk => hk.2) (.slice A0_3 l0_3.length c0_3)) (fun _ hk => hk.1.1.1.1), by repeat (first | (with_reducible first | exact HB.out | apply below_alloc | apply pw_below_drewN | apply below_drew1 | refine below_set ?_ GE139.out | refine below_set ?_ GE140.out) | exact HB.out)⟩
    · rw [if_neg c3] at H
      exact absurd H (by simp)
  · rw [if_neg c2] at H
    have c2b0 : decide (12 < (l0_2.length : Int)) = false := decide_eq_false c2
    have c2b1 : decide (12 < l0_2.length) = false := decide_eq_false (by omega)
    clear c2
    by_cases c21 : (l0_3.length : Int) > 12
    · rw [if_pos c21] at H
      have c21b0 : decide (12 < (l0_3.length : Int)) = true := decide_eq_true c21
      have c21b1 : decide (12 < l0_3.length) = true := decide_eq_true (by omega)
      clear c21
      by_cases c22 : 12 ≤ (l0_3.length : Int)
      · rw [if_pos c22] at H
        have c22b0 := eq_true c22
        have c22b1 : decide (12 ≤ (l0_3.length : Int)) = true := decide_eq_true c22
        clear c22
        obtain ⟨y151, hy151⟩ : ∃ y_ : List (S35), y_ = (l0_3.take 12) := ⟨_, rfl⟩
        replace H : (some (a0_0, a0_1, l0_2, y151)) = some (r1, r2, r3, r4) := by first | (rw [hy151]; with_reducible exact H) | (have H2_ := (Option.bind_some _ _).symm.trans H; rw [hy151]; with_reducible exact H2_) | (have H2_ := (Option.bind_some _ _).symm.trans H; with_reducible exact H2_) | with_reducible exact H | (rw [hy151]; exact H) | exact H
        have Ny151 := Aside0.mk hy151
        clear hy151
        simp only [Option.some.injEq, Prod.mk.injEq] at H
        obtain ⟨rfl, rfl, rfl, rfl⟩ := H
        go_enter Try.func11, Try.ntmps11
        go_wp2_with (first | ((with_reducible refine gate_dst (N := 1) rfl ?_); refine box_event ?hg (N := 1) ?hd (cs := #[.string a0_0, .string a0_1, .slice A0_2 l0_2.length c0_2, .slice A0_3 l0_3.length c0_3]) (t := 26) ?hr ?_; (case hd => rfl); (case hg => rfl); (case hr => first | (go_simp; done) | (go_simp; rfl)); intro gb139 hg w23 hbox hb; have n0_ := Aside0.mk (Kd.V_below (Kd.V_elderB (by (with_reducible repeat (first | apply Kd.V_alloc | apply Kd.V_drewN | apply Kd.V_drew)); exact HO0_2.out) gb139 (Nat.le_of_eq hg.symm)) hb); have n1_ := Aside0.mk (Kd.V_below (Kd.V_elderB (by (with_reducible repeat (first | apply Kd.V_alloc | apply Kd.V_drewN | apply Kd.V_drew)); exact HO0_3.out) gb139 (Nat.le_of_eq hg.symm)) hb); have n2_ := Aside0.mk (below_step (by repeat (first | (with_reducible first | exact HB.out | apply below_alloc | apply pw_below_drewN | apply below_drew1) | exact HB.out)) hb); have n3_ := Aside0.mk (hbox); have n4_ := Aside0.mk ((by rw [hg]; exact (below_size (by repeat (first | (with_reducible first | exact HB.out | apply below_alloc | apply pw_below_drewN | apply below_drew1) | exact HB.out))) : w.heap.size ≤ gb139)); have n5_ := Aside0.mk ((by rw [hg]; exact (below_size (by repeat (first | (with_reducible first | exact HB.out | apply below_alloc | apply pw_below_drewN | apply below_drew1) | exact HB.out))) : w.heap.size ≤ gb139)); clear HO0_2; clear HO0_3; clear HB; have HO0_2 := n0_; have HO0_3 := n1_; have HB := n2_; have BK139 := n3_; have GW139 := n4_; have GE139 := n5_; clear n0_ n1_ n2_ n3_ n4_ n5_; clear hb hbox hg) | ((with_reducible refine gate_dst (N := 2) rfl ?_); refine box_event ?hg (N := 2) ?hd (cs := #[.string (⟨#[]⟩ : ByteArray), .string (⟨#[]⟩ : ByteArray), .slice none 0 0, .slice none 0 0]) (t := 26) ?hr ?_; (case hd => rfl); (case hg => rfl); (case hr => first | (go_simp; done) | (go_simp; rfl)); intro gb140 hg w24 hbox hb; have n0_ := Aside0.mk (Kd.V_below (Kd.V_elderB (by (with_reducible repeat (first | apply Kd.V_alloc | apply Kd.V_drewN | apply Kd.V_drew)); exact HO0_2.out) gb140 (Nat.le_of_eq hg.symm)) hb); have n1_ := Aside0.mk (Kd.V_below (Kd.V_elderB (by (with_reducible repeat (first | apply Kd.V_alloc | apply Kd.V_drewN | apply Kd.V_drew)); exact HO0_3.out) gb140 (Nat.le_of_eq hg.symm)) hb); have n2_ := Aside0.mk (blk_below (g := gb139) (o := .cells #[.string a0_0, .string a0_1, .slice A0_2 l0_2.length c0_2, .slice A0_3 l0_3.length c0_3] 26 (0, 0)) (by (with_reducible repeat (first | refine blk_drewN ?_ _ | refine blk_drew ?_ | refine blk_alloc ?_ _)); exact BK139.out) hb); have n3_ := Aside0.mk (below_step (by repeat (first | (with_reducible first | exact HB.out | apply below_alloc | apply pw_below_drewN | apply below_drew1 | refine below_set ?_ GE139.out) | exact HB.out)) hb); have n4_ := Aside0.mk (hbox); have n5_ := Aside0.mk ((by rw [hg]; exact (below_size (by repeat (first | (with_reducible first | exact HB.out | apply below_alloc | apply pw_below_drewN | apply below_drew1 | refine below_set ?_ GE139.out) | exact HB.out))) : w.heap.size ≤ gb140)); have n6_ := Aside0.mk ((by rw [hg]; exact (below_size (by repeat (first | (with_reducible first | exact HB.out | apply below_alloc | apply pw_below_drewN | apply below_drew1 | refine below_set ?_ GE139.out) | exact HB.out))) : w.heap.size ≤ gb140)); have n7_ := Aside0.mk ((by rw [hg]; exact Nat.ne_of_lt (blk_lt (g := gb139) (o := .cells #[.string a0_0, .string a0_1, .slice A0_2 l0_2.length c0_2, .slice A0_3 l0_3.length c0_3] 26 (0, 0)) (by (with_reducible repeat (first | refine blk_drewN ?_ _ | refine blk_drew ?_ | refine blk_alloc ?_ _)); exact BK139.out)) : gb139 ≠ gb140)); have n8_ := Aside0.mk ((by rw [hg]; exact Nat.ne_of_gt (blk_lt (g := gb139) (o := .cells #[.string a0_0, .string a0_1, .slice A0_2 l0_2.length c0_2, .slice A0_3 l0_3.length c0_3] 26 (0, 0)) (by (with_reducible repeat (first | refine blk_drewN ?_ _ | refine blk_drew ?_ | refine blk_alloc ?_ _)); exact BK139.out)) : gb140 ≠ gb139)); clear HO0_2; clear HO0_3; clear BK139; clear HB; have HO0_2 := n0_; have HO0_3 := n1_; have BK139 := n2_; have HB := n3_; have BK140 := n4_; have GW140 := n5_; have GE140 := n6_; have NB139_140 := n7_; have NB140_139 := n8_; clear n0_ n1_ n2_ n3_ n4_ n5_ n6_ n7_ n8_; clear hb hbox hg; have hnb25 := NB139_140.out; have hnc25 := NB140_139.out; have hcz26_0 : w24.cell? ⟨gb139, 0, none⟩ = some (.string a0_0) := (blk_cell BK139.out 0).trans rfl; have hcz26_1 : w24.cell? ⟨gb139, 1, none⟩ = some (.string a0_1) := (blk_cell BK139.out 1).trans rfl; have hcz26_2 : w24.cell? ⟨gb139, 2, none⟩ = some (.slice A0_2 l0_2.length c0_2) := (blk_cell BK139.out 2).trans rfl; have hcz26_3 : w24.cell? ⟨gb139, 3, none⟩ = some (.slice A0_3 l0_3.length c0_3) := (blk_cell BK139.out 3).trans rfl; have hfz26_0 := blk_frozen BK139.out 0; have hfz26_1 := blk_frozen BK139.out 1; have hfz26_2 := blk_frozen BK139.out 2; have hfz26_3 := blk_frozen BK139.out 3; have q27 : (12 : Int) ≤ ((l0_3.length : Int) : Int) := of_decide_eq_true (by first | (with_reducible assumption) | assumption); obtain ⟨i027, hi027, _, hsz27, _⟩ := info_parts info35; have hroom27 : l0_3.length ≤ c0_3 := (Kd.V_reads' HO0_3.out).2.1; have hC27 : Kd.F k35 _ _ A0_3 l0_3.length l0_3 := (Kd.V_at (base := w.heap.size) HO0_3.out).2.2; have hcut27 := cut_to (P := Try.prog) 24 35 .i64 Try.underlying24 hi027 A0_3 l0_3.length c0_3 12 (by omega) q27 hroom27; have hr27 := Kd.F_take (m := 12) hC27 (by omega); have hy27 : y151.length = (12 : Int).toNat := (by rw [Ny151.out, List.length_take]; omega); rw [← Ny151.out] at hr27; rw [← hy27] at hcut27; have HO155 := Aside0.mk (show Kd.V k35 35 _ w.heap.size _ (.slice A0_3 y151.length c0_3) y151 from Kd.V_mk (by omega) hr27); have HC155 := Aside0.mk (show y151.length ≤ c0_3 from by omega); clear hr27 hC27 hroom27 hi027 hsz27; have KY27 := Aside0.mk hy27; clear hy27; replace q27 := eq_true q27; have hcz28_0 : w24.cell? ⟨gb140, 0, none⟩ = some (.string (⟨#[]⟩ : ByteArray)) := (blk_cell BK140.out 0).trans rfl; have hcz28_1 : w24.cell? ⟨gb140, 1, none⟩ = some (.string (⟨#[]⟩ : ByteArray)) := (blk_cell BK140.out 1).trans rfl; have hcz28_2 : w24.cell? ⟨gb140, 2, none⟩ = some (.slice none 0 0) := (blk_cell BK140.out 2).trans rfl; have hcz28_3 : w24.cell? ⟨gb140, 3, none⟩ = some (.slice none 0 0) := (blk_cell BK140.out 3).trans rfl; have hfz28_0 := blk_frozen BK140.out 0; have hfz28_1 := blk_frozen BK140.out 1; have hfz28_2 := blk_frozen BK140.out 2; have hfz28_3 := blk_frozen BK140.out 3))
        refine bodyPost_ret (results_cell_row rfl _ _ gb140 26 #[.string a0_0, .string a0_1, .slice A0_2 l0_2.length c0_2, .slice A0_3 y151.length c0_3] (0, 0) _ rfl (by (with_reducible repeat (first | refine blk_drewN ?_ _ | refine blk_drew ?_ | refine blk_alloc ?_ _)); refine blk_put (cs := #[.string a0_0, .string a0_1, .slice A0_2 l0_2.length c0_2, .slice none 0 0]) ?_ 3 _ rfl; (with_reducible repeat (first | refine blk_drewN ?_ _ | refine blk_drew ?_ | refine blk_alloc ?_ _)); refine blk_put (cs := #[.string a0_0, .string a0_1, .slice none 0 0, .slice none 0 0]) ?_ 2 _ rfl; (with_reducible repeat (first | refine blk_drewN ?_ _ | refine blk_drew ?_ | refine blk_alloc ?_ _)); refine blk_put (cs := #[.string a0_0, .string (⟨#[]⟩ : ByteArray), .slice none 0 0, .slice none 0 0]) ?_ 1 _ rfl; (with_reducible repeat (first | refine blk_drewN ?_ _ | refine blk_drew ?_ | refine blk_alloc ?_ _)); refine blk_put (cs := #[.string (⟨#[]⟩ : ByteArray), .string (⟨#[]⟩ : ByteArray), .slice none 0 0, .slice none 0 0]) ?_ 0 _ rfl; (with_reducible repeat (first | refine blk_drewN ?_ _ | refine blk_drew ?_ | refine blk_alloc ?_ _)); refine blk_far ?_ NB140_139.out _; (with_reducible repeat (first | refine blk_drewN ?_ _ | refine blk_drew ?_ | refine blk_alloc ?_ _)); exact BK140.out) Try.underlying26 rfl (by kernel_rfl)) rfl ?_
        exact ⟨_, _, by first | rfl | (simp [errW_none, errW_some] <;> rfl) | (simp [*, errW_none, errW_some] <;> rfl), by (with_reducible repeat (first | apply Kd.V_alloc | apply Kd.V_drewN | apply Kd.V_drew)); exact Kd.V_mono (Kd.V_far (p := ⟨gb140, 3, none⟩) (Kd.V_far (p := ⟨gb140, 2, none⟩) (Kd.V_far (p := ⟨gb140, 1, none⟩) (Kd.V_far (p := ⟨gb140, 0, none⟩) (Kd.V_far (p := ⟨gb139, 3, none⟩) (Kd.V_mono (Kd.V_mono HO0_2.out (fun k_ hk => (⟨hk, hk.1.2⟩ : _ ∧ k_ ≠ gb139))) (fun k_ hk => (⟨hk, hk.1.2⟩ : _ ∧ k_ ≠ gb140))) (fun _ hk => hk.1.2) (.slice A0_3 y151.length c0_3)) (fun _ hk => hk.2) (.string a0_0)) (fun _ hk => hk.2) (.string a0_1)) (fun _ hk => hk.2) (.slice A0_2 l0_2.length c0_2)) (fun _ hk => hk.2) (.slice A0_3 y151.length c0_3)) (fun _ hk => hk.1.1.1.1), by (with_reducible repeat (first | apply Kd.V_alloc | apply Kd.V_drewN | apply Kd.V_drew)); exact Kd.V_mono (Kd.V_far (p := ⟨gb140, 3, none⟩) (Kd.V_far (p := ⟨gb140, 2, none⟩) (Kd.V_far (p := ⟨gb140, 1, none⟩) (Kd.V_far (p := ⟨gb140, 0, none⟩) (Kd.V_far (p := ⟨gb139, 3, none⟩) (Kd.V_mono (Kd.V_mono HO155.out (fun k_ hk => (⟨hk, hk.1.2⟩ : _ ∧ k_ ≠ gb139))) (fun k_ hk => (⟨hk, hk.1.2⟩ : _ ∧ k_ ≠ gb140))) (fun _ hk => hk.1.2) (.slice A0_3 y151.length c0_3)) (fun _ hk => hk.2) (.string a0_0)) (fun _ hk => hk.2) (.string a0_1)) (fun _ hk => hk.2) (.slice A0_2 l0_2.length c0_2)) (fun _ hk => hk.2) (.slice A0_3 y151.length c0_3)) (fun _ hk => hk.1.1.1.1), by repeat (first | (with_reducible first | exact HB.out | apply below_alloc | apply pw_below_drewN | apply below_drew1 | refine below_set ?_ GE139.out | refine below_set ?_ GE140.out) | exact HB.out)⟩
      · rw [if_neg c22] at H
        exact absurd H (by simp)
    · rw [if_neg c21] at H
      have c21b0 : decide (12 < (l0_3.length : Int)) = false := decide_eq_false c21
      have c21b1 : decide (12 < l0_3.length) = false := decide_eq_false (by omega)
      clear c21
      simp only [Option.some.injEq, Prod.mk.injEq] at H
      obtain ⟨rfl, rfl, rfl, rfl⟩ := H
      go_enter Try.func11, Try.ntmps11
      go_wp2_with (first | ((with_reducible refine gate_dst (N := 1) rfl ?_); refine box_event ?hg (N := 1) ?hd (cs := #[.string a0_0, .string a0_1, .slice A0_2 l0_2.length c0_2, .slice A0_3 l0_3.length c0_3]) (t := 26) ?hr ?_; (case hd => rfl); (case hg => rfl); (case hr => first | (go_simp; done) | (go_simp; rfl)); intro gb139 hg w29 hbox hb; have n0_ := Aside0.mk (Kd.V_below (Kd.V_elderB (by (with_reducible repeat (first | apply Kd.V_alloc | apply Kd.V_drewN | apply Kd.V_drew)); exact HO0_2.out) gb139 (Nat.le_of_eq hg.symm)) hb); have n1_ := Aside0.mk (Kd.V_below (Kd.V_elderB (by (with_reducible repeat (first | apply Kd.V_alloc | apply Kd.V_drewN | apply Kd.V_drew)); exact HO0_3.out) gb139 (Nat.le_of_eq hg.symm)) hb); have n2_ := Aside0.mk (below_step (by repeat (first | (with_reducible first | exact HB.out | apply below_alloc | apply pw_below_drewN | apply below_drew1) | exact HB.out)) hb); have n3_ := Aside0.mk (hbox); have n4_ := Aside0.mk ((by rw [hg]; exact (below_size (by repeat (first | (with_reducible first | exact HB.out | apply below_alloc | apply pw_below_drewN | apply below_drew1) | exact HB.out))) : w.heap.size ≤ gb139)); have n5_ := Aside0.mk ((by rw [hg]; exact (below_size (by repeat (first | (with_reducible first | exact HB.out | apply below_alloc | apply pw_below_drewN | apply below_drew1) | exact HB.out))) : w.heap.size ≤ gb139)); clear HO0_2; clear HO0_3; clear HB; have HO0_2 := n0_; have HO0_3 := n1_; have HB := n2_; have BK139 := n3_; have GW139 := n4_; have GE139 := n5_; clear n0_ n1_ n2_ n3_ n4_ n5_; clear hb hbox hg) | ((with_reducible refine gate_dst (N := 2) rfl ?_); refine box_event ?hg (N := 2) ?hd (cs := #[.string (⟨#[]⟩ : ByteArray), .string (⟨#[]⟩ : ByteArray), .slice none 0 0, .slice none 0 0]) (t := 26) ?hr ?_; (case hd => rfl); (case hg => rfl); (case hr => first | (go_simp; done) | (go_simp; rfl)); intro gb140 hg w30 hbox hb; have n0_ := Aside0.mk (Kd.V_below (Kd.V_elderB (by (with_reducible repeat (first | apply Kd.V_alloc | apply Kd.V_drewN | apply Kd.V_drew)); exact HO0_2.out) gb140 (Nat.le_of_eq hg.symm)) hb); have n1_ := Aside0.mk (Kd.V_below (Kd.V_elderB (by (with_reducible repeat (first | apply Kd.V_alloc | apply Kd.V_drewN | apply Kd.V_drew)); exact HO0_3.out) gb140 (Nat.le_of_eq hg.symm)) hb); have n2_ := Aside0.mk (blk_below (g := gb139) (o := .cells #[.string a0_0, .string a0_1, .slice A0_2 l0_2.length c0_2, .slice A0_3 l0_3.length c0_3] 26 (0, 0)) (by (with_reducible repeat (first | refine blk_drewN ?_ _ | refine blk_drew ?_ | refine blk_alloc ?_ _)); exact BK139.out) hb); have n3_ := Aside0.mk (below_step (by repeat (first | (with_reducible first | exact HB.out | apply below_alloc | apply pw_below_drewN | apply below_drew1 | refine below_set ?_ GE139.out) | exact HB.out)) hb); have n4_ := Aside0.mk (hbox); have n5_ := Aside0.mk ((by rw [hg]; exact (below_size (by repeat (first | (with_reducible first | exact HB.out | apply below_alloc | apply pw_below_drewN | apply below_drew1 | refine below_set ?_ GE139.out) | exact HB.out))) : w.heap.size ≤ gb140)); have n6_ := Aside0.mk ((by rw [hg]; exact (below_size (by repeat (first | (with_reducible first | exact HB.out | apply below_alloc | apply pw_below_drewN | apply below_drew1 | refine below_set ?_ GE139.out) | exact HB.out))) : w.heap.size ≤ gb140)); have n7_ := Aside0.mk ((by rw [hg]; exact Nat.ne_of_lt (blk_lt (g := gb139) (o := .cells #[.string a0_0, .string a0_1, .slice A0_2 l0_2.length c0_2, .slice A0_3 l0_3.length c0_3] 26 (0, 0)) (by (with_reducible repeat (first | refine blk_drewN ?_ _ | refine blk_drew ?_ | refine blk_alloc ?_ _)); exact BK139.out)) : gb139 ≠ gb140)); have n8_ := Aside0.mk ((by rw [hg]; exact Nat.ne_of_gt (blk_lt (g := gb139) (o := .cells #[.string a0_0, .string a0_1, .slice A0_2 l0_2.length c0_2, .slice A0_3 l0_3.length c0_3] 26 (0, 0)) (by (with_reducible repeat (first | refine blk_drewN ?_ _ | refine blk_drew ?_ | refine blk_alloc ?_ _)); exact BK139.out)) : gb140 ≠ gb139)); clear HO0_2; clear HO0_3; clear BK139; clear HB; have HO0_2 := n0_; have HO0_3 := n1_; have BK139 := n2_; have HB := n3_; have BK140 := n4_; have GW140 := n5_; have GE140 := n6_; have NB139_140 := n7_; have NB140_139 := n8_; clear n0_ n1_ n2_ n3_ n4_ n5_ n6_ n7_ n8_; clear hb hbox hg; have hnb31 := NB139_140.out; have hnc31 := NB140_139.out; have hcz32_0 : w30.cell? ⟨gb139, 0, none⟩ = some (.string a0_0) := (blk_cell BK139.out 0).trans rfl; have hcz32_1 : w30.cell? ⟨gb139, 1, none⟩ = some (.string a0_1) := (blk_cell BK139.out 1).trans rfl; have hcz32_2 : w30.cell? ⟨gb139, 2, none⟩ = some (.slice A0_2 l0_2.length c0_2) := (blk_cell BK139.out 2).trans rfl; have hcz32_3 : w30.cell? ⟨gb139, 3, none⟩ = some (.slice A0_3 l0_3.length c0_3) := (blk_cell BK139.out 3).trans rfl; have hfz32_0 := blk_frozen BK139.out 0; have hfz32_1 := blk_frozen BK139.out 1; have hfz32_2 := blk_frozen BK139.out 2; have hfz32_3 := blk_frozen BK139.out 3; have hcz33_0 : w30.cell? ⟨gb140, 0, none⟩ = some (.string (⟨#[]⟩ : ByteArray)) := (blk_cell BK140.out 0).trans rfl; have hcz33_1 : w30.cell? ⟨gb140, 1, none⟩ = some (.string (⟨#[]⟩ : ByteArray)) := (blk_cell BK140.out 1).trans rfl; have hcz33_2 : w30.cell? ⟨gb140, 2, none⟩ = some (.slice none 0 0) := (blk_cell BK140.out 2).trans rfl; have hcz33_3 : w30.cell? ⟨gb140, 3, none⟩ = some (.slice none 0 0) := (blk_cell BK140.out 3).trans rfl; have hfz33_0 := blk_frozen BK140.out 0; have hfz33_1 := blk_frozen BK140.out 1; have hfz33_2 := blk_frozen BK140.out 2; have hfz33_3 := blk_frozen BK140.out 3))
      refine bodyPost_ret (results_cell_row rfl _ _ gb140 26 #[.string a0_0, .string a0_1, .slice A0_2 l0_2.length c0_2, .slice A0_3 l0_3.length c0_3] (0, 0) _ rfl (by (with_reducible repeat (first | refine blk_drewN ?_ _ | refine blk_drew ?_ | refine blk_alloc ?_ _)); refine blk_put (cs := #[.string a0_0, .string a0_1, .slice A0_2 l0_2.length c0_2, .slice none 0 0]) ?_ 3 _ rfl; (with_reducible repeat (first | refine blk_drewN ?_ _ | refine blk_drew ?_ | refine blk_alloc ?_ _)); refine blk_put (cs := #[.string a0_0, .string a0_1, .slice none 0 0, .slice none 0 0]) ?_ 2 _ rfl; (with_reducible repeat (first | refine blk_drewN ?_ _ | refine blk_drew ?_ | refine blk_alloc ?_ _)); refine blk_put (cs := #[.string a0_0, .string (⟨#[]⟩ : ByteArray), .slice none 0 0, .slice none 0 0]) ?_ 1 _ rfl; (with_reducible repeat (first | refine blk_drewN ?_ _ | refine blk_drew ?_ | refine blk_alloc ?_ _)); refine blk_put (cs := #[.string (⟨#[]⟩ : ByteArray), .string (⟨#[]⟩ : ByteArray), .slice none 0 0, .slice none 0 0]) ?_ 0 _ rfl; (with_reducible repeat (first | refine blk_drewN ?_ _ | refine blk_drew ?_ | refine blk_alloc ?_ _)); exact BK140.out) Try.underlying26 rfl (by kernel_rfl)) rfl ?_
      exact ⟨_, _, by first | rfl | (simp [errW_none, errW_some] <;> rfl) | (simp [*, errW_none, errW_some] <;> rfl), by (with_reducible repeat (first | apply Kd.V_alloc | apply Kd.V_drewN | apply Kd.V_drew)); exact Kd.V_mono (Kd.V_far (p := ⟨gb140, 3, none⟩) (Kd.V_far (p := ⟨gb140, 2, none⟩) (Kd.V_far (p := ⟨gb140, 1, none⟩) (Kd.V_far (p := ⟨gb140, 0, none⟩) (Kd.V_mono HO0_2.out (fun k_ hk => (⟨hk, hk.2⟩ : _ ∧ k_ ≠ gb140))) (fun _ hk => hk.2) (.string a0_0)) (fun _ hk => hk.2) (.string a0_1)) (fun _ hk => hk.2) (.slice A0_2 l0_2.length c0_2)) (fun _ hk => hk.2) (.slice A0_3 l0_3.length c0_3)) (fun _ hk => hk.1.1.1), by (with_reducible repeat (first | apply Kd.V_alloc | apply Kd.V_drewN | apply Kd.V_drew)); exact Kd.V_mono (Kd.V_far (p := ⟨gb140, 3, none⟩) (Kd.V_far (p := ⟨gb140, 2, none⟩) (Kd.V_far (p := ⟨gb140, 1, none⟩) (Kd.V_far (p := ⟨gb140, 0, none⟩) (Kd.V_mono HO0_3.out (fun k_ hk => (⟨hk, hk.2⟩ : _ ∧ k_ ≠ gb140))) (fun _ hk => hk.2) (.string a0_0)) (fun _ hk => hk.2) (.string a0_1)) (fun _ hk => hk.2) (.slice A0_2 l0_2.length c0_2)) (fun _ hk => hk.2) (.slice A0_3 l0_3.length c0_3)) (fun _ hk => hk.1.1.1), by repeat (first | (with_reducible first | exact HB.out | apply below_alloc | apply pw_below_drewN | apply below_drew1 | refine below_set ?_ GE139.out | refine below_set ?_ GE140.out) | exact HB.out)⟩

end Go.Proofs.Ytmnidohgnnpeiaa.Prt
namespace Go.Proofs.Ytmnidohgnnpeiaa.Prt
open Go.RowKit Go.Proofs.YtmnidohgnnpeiaaW.PrintWords Go.Proofs.YtmnidohgnnpeiaaW.PrintLast Go.Proofs.YtmnidohgnnpeiaaW.PrintMore Go.Proofs.Ytmnidohgnnpeiaa.Num Go.Proofs.Ytmnidohgnnpeiaa.Nam
set_option linter.unusedVariables false
set_option linter.unusedSimpArgs false

theorem enc_0 : enc 0 = [0] := by unfold enc zz; rw [if_neg (by omega), encN_lt (by decide)]; rfl
theorem enc_1 : enc 1 = [2] := by unfold enc zz; rw [if_neg (by omega), encN_lt (by decide)]; rfl
theorem may_one (c : Int) (h : plainC c = true) (h2 : notFirst c = false) : mayL [c] = true := by
  refine may_of ⟨by simp, by simp⟩ h2 ?_
  rw [lo1 h]; exact lettersOnly_nil
theorem ok_st : OkE (⟨#[115]⟩ : ByteArray) (⟨#[116]⟩ : ByteArray) [] [] :=
  ⟨may_one 115 (by decide) (by decide), may_one 116 (by decide) (by decide), by simp, by simp, fun x hx => by simp at hx, fun x hx => by simp at hx, rfl, rfl, fun x hx => by simp at hx⟩
theorem enc_st : encEv (⟨#[115]⟩ : ByteArray) (⟨#[116]⟩ : ByteArray) [] [] = [2, 115, 2, 116, 0, 0] := by
  show (enc 1 ++ [115]) ++ ((enc 1 ++ [116]) ++ ((enc 0 ++ []) ++ (enc 0 ++ []))) = _
  rw [enc_0, enc_1]; rfl
theorem putG_ok {l0 : List Int} {s t : ByteArray} {a : List ByteArray} {f : List S35} (hl : l0.length ≤ 140737488340000) (ha : a.length ≤ 9223372036854775807) (hf : fitE s t a f = true) :
    evcode_PutG.f l0 s t a f = some (if mayE s t a f = 0 then (l0 ++ encEv s t a f, 0) else ([], mayE s t a f)) := if_pos ⟨hl, ha, hf⟩
theorem refPutG_ok {l0 : List Int} {s t : ByteArray} {a : List ByteArray} {f : List S35} (hl : l0.length ≤ 140737488340000) (ha : a.length ≤ 9223372036854775807) (hf : fitE s t a f = true) :
    registrarref05_PutG.f l0 s t a f = some (if mayE s t a f = 0 then (l0 ++ encEv s t a f, 0) else ([], mayE s t a f)) := if_pos ⟨hl, ha, hf⟩
theorem shown05 : registrarlaw05_shown.f = some true := by
  unfold registrarlaw05_shown.f
  rw [putG_ok (by decide) (by decide) (fitE_iff.2 ⟨by decide, by decide, fun x hx => by simp at hx, fun x hx => by simp at hx, by decide⟩), if_pos ((okE_iff _ _ _ _).2 ok_st), enc_st]
  simp only [Option.bind_some, List.nil_append]
  rw [if_pos (by rw [strOfNums_toList]; rfl)]; rfl
theorem few05 (s t : ByteArray) (a : List ByteArray) (f : List S35) : registrarlaw05_few.f s t a f = some (s, t, a.take 12, f.take 12) := by
  unfold registrarlaw05_few.f
  by_cases h1 : (a.length : Int) > 12
  · rw [if_pos h1, if_pos (by omega)]
    simp only [Option.bind_some]
    by_cases h2 : (f.length : Int) > 12
    · rw [if_pos h2, if_pos (by omega)]
    · rw [if_neg h2, List.take_of_length_le (l := f) (by omega)]
  · rw [if_neg h1, List.take_of_length_le (l := a) (by omega)]
    by_cases h2 : (f.length : Int) > 12
    · rw [if_pos h2, if_pos (by omega)]
    · rw [if_neg h2, List.take_of_length_le (l := f) (by omega)]
/-- Texts that fit in a machine. -/
def Fits (s t : ByteArray) (a : List ByteArray) (f : List S35) : Prop := s.size ≤ 9223372036854775807 ∧ t.size ≤ 9223372036854775807 ∧ (∀ x ∈ a, x.size ≤ 9223372036854775807) ∧ (∀ x ∈ f, x.f0.size ≤ 9223372036854775807)
theorem fit_few {s t : ByteArray} {a : List ByteArray} {f : List S35} (h : Fits s t a f) : fitE s t (a.take 12) (f.take 12) = true := by
  obtain ⟨h1, h2, h3, h4⟩ := h
  refine fitE_iff.2 ⟨h1, h2, fun x hx => h3 x (List.mem_of_mem_take hx), fun x hx => h4 x (List.mem_of_mem_take hx), ?_⟩
  rw [List.length_take]; omega
theorem take12 {α : Type} (l : List α) : (l.take 12).length ≤ 9223372036854775807 := by rw [List.length_take]; omega

/-! Bytes of events: none begins another one's. -/
theorem enc_part {x y : Int} (hx : i64 x) (hy : i64 y) {r r' : List Int} (h : enc x ++ r = enc y ++ r') : x = y ∧ r = r' := by
  have h1 := dec_enc hx r
  rw [h, dec_enc hy] at h1
  simp only [Option.some.injEq, Prod.mk.injEq] at h1
  exact ⟨h1.1.symm, h1.2.symm⟩
theorem encT_part {s t : ByteArray} (hs : s.size ≤ 9223372036854775807) (ht : t.size ≤ 9223372036854775807) {r r' : List Int} (h : encT (bytesOf s) ++ r = encT (bytesOf t) ++ r') : s = t ∧ r = r' := by
  have h1 := decT_encT (s := bytesOf s) (by rw [bytes_length]; exact hs) r
  rw [h, decT_encT (by rw [bytes_length]; exact ht)] at h1
  simp only [Option.some.injEq, Prod.mk.injEq] at h1
  exact ⟨(bytesOf_inj h1.1).symm, h1.2.symm⟩
theorem encTs_part : ∀ (a b : List ByteArray) (r r' : List Int), (∀ x ∈ a, x.size ≤ 9223372036854775807) → (∀ x ∈ b, x.size ≤ 9223372036854775807) → a.length = b.length → encTs a ++ r = encTs b ++ r' → a = b ∧ r = r'
  | [], [], r, r', _, _, _, h => ⟨rfl, h⟩
  | x :: a, y :: b, r, r', ha, hb, hl, h => by
    unfold encTs at h
    rw [List.flatMap_cons, List.flatMap_cons, List.append_assoc, List.append_assoc] at h
    obtain ⟨h1, h2⟩ := encT_part (ha x (by simp)) (hb y (by simp)) h
    obtain ⟨h3, h4⟩ := encTs_part a b r r' (fun z hz => ha z (by simp [hz])) (fun z hz => hb z (by simp [hz])) (by simpa using hl) h2
    exact ⟨by rw [h1, h3], h4⟩
  | [], _ :: _, _, _, _, _, hl, _ => by simp at hl
  | _ :: _, [], _, _, _, _, hl, _ => by simp at hl
theorem encFs_part : ∀ (a b : List S35) (r r' : List Int), (∀ x ∈ a, x.f0.size ≤ 9223372036854775807 ∧ i64 x.f1) → (∀ x ∈ b, x.f0.size ≤ 9223372036854775807 ∧ i64 x.f1) → a.length = b.length → encFs a ++ r = encFs b ++ r' → a = b ∧ r = r'
  | [], [], r, r', _, _, _, h => ⟨rfl, h⟩
  | x :: a, y :: b, r, r', ha, hb, hl, h => by
    unfold encFs at h
    rw [List.flatMap_cons, List.flatMap_cons, List.append_assoc, List.append_assoc, List.append_assoc, List.append_assoc] at h
    obtain ⟨h1, h2⟩ := encT_part (ha x (by simp)).1 (hb y (by simp)).1 h
    obtain ⟨h3, h4⟩ := enc_part (ha x (by simp)).2 (hb y (by simp)).2 h2
    obtain ⟨h5, h6⟩ := encFs_part a b r r' (fun z hz => ha z (by simp [hz])) (fun z hz => hb z (by simp [hz])) (by simpa using hl) h4
    refine ⟨?_, h6⟩
    rw [h5]
    congr 1
    cases x; cases y; simp_all
  | [], _ :: _, _, _, _, _, hl, _ => by simp at hl
  | _ :: _, [], _, _, _, _, hl, _ => by simp at hl
theorem OkE.sizes {s t : ByteArray} {a : List ByteArray} {f : List S35} (h : OkE s t a f) : s.size ≤ 9223372036854775807 ∧ t.size ≤ 9223372036854775807 ∧ (∀ x ∈ a, x.size ≤ 9223372036854775807) ∧ (∀ x ∈ f, x.f0.size ≤ 9223372036854775807 ∧ i64 x.f1) ∧ i64 (a.length : Int) ∧ i64 (f.length : Int) := by
  have h1 := may_size h.hs
  have h2 := may_size h.ht
  have h3 := h.ht6
  have h4 := h.hf4
  refine ⟨by omega, by omega, fun x hx => ?_, fun x hx => ⟨?_, ?_⟩, ⟨by omega, by omega⟩, ⟨by omega, by omega⟩⟩
  · have := tag_size (h.htag x hx); omega
  · have := may_size (h.hname x hx); omega
  · have := h.hov x hx; exact ⟨by omega, by omega⟩
theorem encEv_part {s t : ByteArray} {a : List ByteArray} {f : List S35} {s' t' : ByteArray} {a' : List ByteArray} {f' : List S35} (h : OkE s t a f) (h' : OkE s' t' a' f') {r r' : List Int}
    (he : encEv s t a f ++ r = encEv s' t' a' f' ++ r') : (s = s' ∧ t = t' ∧ a = a' ∧ f = f') ∧ r = r' := by
  obtain ⟨z1, z2, z3, z4, z5, z6⟩ := h.sizes
  obtain ⟨y1, y2, y3, y4, y5, y6⟩ := h'.sizes
  unfold encEv at he
  simp only [List.append_assoc] at he
  obtain ⟨e1, he⟩ := encT_part z1 y1 he
  obtain ⟨e2, he⟩ := encT_part z2 y2 he
  obtain ⟨e3, he⟩ := enc_part z5 y5 he
  obtain ⟨e4, he⟩ := encTs_part a a' _ _ z3 y3 (by omega) he
  obtain ⟨e5, he⟩ := enc_part z6 y6 he
  obtain ⟨e6, he⟩ := encFs_part f f' _ _ z4 y4 (by omega) he
  exact ⟨⟨e1, e2, e4, e6⟩, he⟩
theorem encTs_bytes (a : List ByteArray) : isBytes (encTs a) := by
  induction a with
  | nil => intro c hc; simp [encTs] at hc
  | cons x r ih =>
    have e : encTs (x :: r) = encT (bytesOf x) ++ encTs r := by unfold encTs; rw [List.flatMap_cons]
    rw [e]
    exact isBytes_append.2 ⟨isBytes_append.2 ⟨enc_bytes _, bytesOf_isBytes x⟩, ih⟩
theorem encFs_bytes (a : List S35) : isBytes (encFs a) := by
  induction a with
  | nil => intro c hc; simp [encFs] at hc
  | cons x r ih =>
    have e : encFs (x :: r) = (encT (bytesOf x.f0) ++ enc x.f1) ++ encFs r := by unfold encFs; rw [List.flatMap_cons]
    rw [e]
    exact isBytes_append.2 ⟨isBytes_append.2 ⟨isBytes_append.2 ⟨enc_bytes _, bytesOf_isBytes x.f0⟩, enc_bytes _⟩, ih⟩
theorem encEv_bytes (s t : ByteArray) (a : List ByteArray) (f : List S35) : isBytes (encEv s t a f) := by
  unfold encEv
  exact isBytes_append.2 ⟨isBytes_append.2 ⟨enc_bytes _, bytesOf_isBytes s⟩, isBytes_append.2 ⟨isBytes_append.2 ⟨enc_bytes _, bytesOf_isBytes t⟩, isBytes_append.2 ⟨isBytes_append.2 ⟨enc_bytes _, encTs_bytes a⟩, isBytes_append.2 ⟨enc_bytes _, encFs_bytes f⟩⟩⟩⟩
end Go.Proofs.Ytmnidohgnnpeiaa.Prt

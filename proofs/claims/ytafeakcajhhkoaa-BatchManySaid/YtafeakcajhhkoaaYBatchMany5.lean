/- Functions of the program, told as plain functions, with their walks: written by a program of this claim's out of the translation. The statements BatchPuts, BatchApart and BatchMany, of plain functions. Arguments of any shape, opened: what reads as data lies in memory as a list, a struct, a text .. Arguments that are events, opened. Arguments that are rows of events, opened. Arguments that are batches, opened. The statement BatchMany: the walk of the law. -/
import Derived.ChangeArms
import Derived.OpenShut
import Derived.DataReads
import Derived.Deep.Slices
import Derived.Test.YtafeakcajhhkoaaYBatchMany1
import Derived.Test.YtafeakcajhhkoaaYBatchMany2
import Derived.Test.YtafeakcajhhkoaaYBatchMany3
import Derived.Test.YtafeakcajhhkoaaYBatchMany4
namespace Go.Proofs.Ytafeakcajhhkoaa.Prt
open Go.RowKit Go.Proofs.YtafeakcajhhkoaaW.PrintWords Go.Proofs.YtafeakcajhhkoaaW.PrintLast Go.Proofs.YtafeakcajhhkoaaW.PrintMore
attribute [local go_sem] max2_int min2_int max_two min_two max_three min_three max_four min_four   -- for this text's walks alone
set_option linter.unusedVariables false
set_option linter.unusedSimpArgs false

def registrarlaw10_BatchMany.l0 : Nat → Bool → List Int → Int → Int → Int → List (S40) → Option (Bool)
  | 0, _, _, _, _, _, _ => none
  | k + 1, x3, x4, x6, x7, x356000, x356001 => if x7 < (x356001.length : Int) then (if 0 ≤ x7 then ((evcode_PutG.f ([] : List Int) ((rd_T40 x356001 x7).f0) ((rd_T40 x356001 x7).f1) ((rd_T40 x356001 x7).f2) ((rd_T40 x356001 x7).f3)).bind fun bt372 => (if bt372.2 = 0 then (registrarlaw10_BatchMany.l0 k x3 x4 (wrap64 (x6 + (bt372.1.length : Int))) (wrap64 (x7 + 1)) x356000 x356001) else (some false))) else (none)) else (if x3 = true then (some ((x4.length : Int) == x6)) else (some false))
def registrarlaw10_BatchMany.f (k : Nat) (a0_0 : Int) (l0_1 : List (S40)) : Option (Bool) := (registrarlaw10_shown.f).bind fun t356 => ((registrarlaw10_few.f k a0_0 l0_1).bind fun bt357 => ((batch_PutG.f bt357.1 bt357.2).bind fun bt361 => (if bt361.2 = 0 then ((registrarref01_Put.f ([] : List Int) bt357.1).bind fun t365 => ((registrarref01_Put.f ([] : List Int) (bt357.2.length : Int)).bind fun t368 => (registrarlaw10_BatchMany.l0 k t356 bt361.1 (wrap64 ((t365.length : Int) + (t368.length : Int))) 0 bt357.1 bt357.2))) else (if t356 = true then (some ((bt361.1.length : Int) == 0)) else (some false)))))
def registrarlaw10_BatchMany.T6 : Bool × List (List Nat × List Nat) := (true, [([], []), ([0], [0]), ([1], [1]), ([2], [2]), ([], []), ([4], [4]), ([5], [5]), ([6, 2], [6]), ([7], [7]), ([3, 8], [3, 8]), ([9, 7, 0, 1, 2, 3, 4, 5, 6, 7, 8, 9], [9])])
def registrarlaw10_BatchMany.B6 : List Nat := [0, 1, 3, 7, 0, 16, 48, 119, 247, 511, 1023]
theorem registrarlaw10_BatchMany.tab6 : rtab .any (opsOf Try.f6 6) = registrarlaw10_BatchMany.T6 := by kernel_rfl
theorem registrarlaw10_BatchMany.bits6 : waitsOk registrarlaw10_BatchMany.T6.2 registrarlaw10_BatchMany.B6 = true := by kernel_rfl
set_option maxHeartbeats 8000000 in
set_option maxRecDepth 100000 in
theorem registrarlaw10_BatchMany.calls (k : Nat) (a0_0 : Int) (A0_1 : Option Addr) (c0_1 : Nat) (l0_1 : List (S40)) (r : Bool) (w : World) (hr0_1 : Kd.C k40 w A0_1 l0_1.length l0_1) (hc0_1 : l0_1.length ≤ c0_1) (h : registrarlaw10_BatchMany.f k a0_0 l0_1 = some r) :
    Calls Try.prog 6 #[.agg #[.int .i64 a0_0, .slice A0_1 l0_1.length c0_1]] w fun e w' => e = .returned (.bool r) ∧ Below w.heap.size w w' := by
  have hu24 := Try.underlying24
  have hu40 := Try.underlying40
  have HR0_1 := Aside0.mk hr0_1
  have HC0_1 := Aside0.mk hc0_1
  clear hr0_1 hc0_1
  have HB := Aside0.mk (Below.refl w.heap.size w)
  have H : ((registrarlaw10_shown.f).bind fun t356 => ((registrarlaw10_few.f k a0_0 l0_1).bind fun bt357 => ((batch_PutG.f bt357.1 bt357.2).bind fun bt361 => (if bt361.2 = 0 then ((registrarref01_Put.f ([] : List Int) bt357.1).bind fun t365 => ((registrarref01_Put.f ([] : List Int) (bt357.2.length : Int)).bind fun t368 => (registrarlaw10_BatchMany.l0 k t356 bt361.1 (wrap64 ((t365.length : Int) + (t368.length : Int))) 0 bt357.1 bt357.2))) else (if t356 = true then (some ((bt361.1.length : Int) == 0)) else (some false)))))) = some r := h
  clear h
  replace H := Option.bind_eq_some_iff.mp H
  obtain ⟨t356, A20, H⟩ := H
  replace H : ((registrarlaw10_few.f k a0_0 l0_1).bind fun bt357 => ((batch_PutG.f bt357.1 bt357.2).bind fun bt361 => (if bt361.2 = 0 then ((registrarref01_Put.f ([] : List Int) bt357.1).bind fun t365 => ((registrarref01_Put.f ([] : List Int) (bt357.2.length : Int)).bind fun t368 => (registrarlaw10_BatchMany.l0 k t356 bt361.1 (wrap64 ((t365.length : Int) + (t368.length : Int))) 0 bt357.1 bt357.2))) else (if t356 = true then (some ((bt361.1.length : Int) == 0)) else (some false))))) = some r := H
  have A2 := Aside0.mk A20
  clear A20
  replace H := Option.bind_eq_some_iff.mp H
  obtain ⟨⟨t357, t358⟩, A30, H⟩ := H
  replace H : ((batch_PutG.f t357 t358).bind fun bt361 => (if bt361.2 = 0 then ((registrarref01_Put.f ([] : List Int) t357).bind fun t365 => ((registrarref01_Put.f ([] : List Int) (t358.length : Int)).bind fun t368 => (registrarlaw10_BatchMany.l0 k t356 bt361.1 (wrap64 ((t365.length : Int) + (t368.length : Int))) 0 t357 t358))) else (if t356 = true then (some ((bt361.1.length : Int) == 0)) else (some false)))) = some r := H
  have A3 := Aside0.mk A30
  clear A30
  replace H := Option.bind_eq_some_iff.mp H
  obtain ⟨⟨t361, t364⟩, A40, H⟩ := H
  replace H : (if t364 = 0 then ((registrarref01_Put.f ([] : List Int) t357).bind fun t365 => ((registrarref01_Put.f ([] : List Int) (t358.length : Int)).bind fun t368 => (registrarlaw10_BatchMany.l0 k t356 t361 (wrap64 ((t365.length : Int) + (t368.length : Int))) 0 t357 t358))) else (if t356 = true then (some ((t361.length : Int) == 0)) else (some false))) = some r := H
  have A4 := Aside0.mk A40
  clear A40
  by_cases c5 : t364 = 0
  · rw [if_pos c5] at H
    have c5b0 : (t364 == 0) = true := beq_iff_eq.mpr c5
    have c5b1 : (t364 != 0) = false := bne_eq_false_iff_eq.mpr c5
    clear c5
    replace H := Option.bind_eq_some_iff.mp H
    obtain ⟨t365, A60, H⟩ := H
    replace H : ((registrarref01_Put.f ([] : List Int) (t358.length : Int)).bind fun t368 => (registrarlaw10_BatchMany.l0 k t356 t361 (wrap64 ((t365.length : Int) + (t368.length : Int))) 0 t357 t358)) = some r := H
    have A6 := Aside0.mk A60
    clear A60
    replace H := Option.bind_eq_some_iff.mp H
    obtain ⟨t368, A70, H⟩ := H
    replace H : (registrarlaw10_BatchMany.l0 k t356 t361 (wrap64 ((t365.length : Int) + (t368.length : Int))) 0 t357 t358) = some r := H
    have A7 := Aside0.mk A70
    clear A70
    have H' := Aside0.mk H
    clear H
    go_enter Try.func6, Try.ntmps6
    try go_wp2_with (first | ((with_reducible refine gate_dst (N := 1) rfl ?_); (try (refine gate_guard (by rfl) ?_; dsimp only)); refine box_event ?hg (N := 1) ?hd (cs := #[.int .i64 a0_0, .slice A0_1 l0_1.length c0_1]) (t := 24) ?hr ?_; (case hd => rfl); (case hg => rfl); (case hr => first | (go_simp; done) | (go_simp; rfl)); intro gb355 hg w8 hbox hb; have n0_ := Aside0.mk (below_step (by repeat (first | (with_reducible first | exact HB.out | apply below_alloc | apply pw_below_drewN | apply below_drew1) | exact HB.out)) hb); have n1_ := Aside0.mk (hbox); have n2_ := Aside0.mk ((by rw [hg]; exact (below_size (by repeat (first | (with_reducible first | exact HB.out | apply below_alloc | apply pw_below_drewN | apply below_drew1) | exact HB.out))) : w.heap.size ≤ gb355)); have n3_ := Aside0.mk ((by rw [hg]; exact (below_size (by repeat (first | (with_reducible first | exact HB.out | apply below_alloc | apply pw_below_drewN | apply below_drew1) | exact HB.out))) : w.heap.size ≤ gb355)); clear HB; have HB := n0_; have BK355 := n1_; have GW355 := n2_; have GE355 := n3_; clear n0_ n1_ n2_ n3_; clear hb hbox hg) | ((with_reducible refine gate_callee (f := 9) rfl ?_); refine goesL_ (some 10) rfl rfl Try.func9 (by kernel_rfl) rfl #[] rfl (by (try simp only [List.map_toArray, List.map_cons, List.map_nil]); first | done | rfl | (simp only [List.length_drop, List.length_take]; rfl)) ?_; (with_reducible refine (registrarlaw10_shown.calls  t356 _ A2.out).mono ?_); rintro e w9 ⟨rfl, hb⟩; refine ⟨_, rfl, ?_⟩; have n0_ := Aside0.mk (blk_below (g := gb355) (o := .cells #[.int .i64 a0_0, .slice A0_1 l0_1.length c0_1] 24 (0, 0)) (by (with_reducible repeat (first | refine blk_drewN ?_ _ | refine blk_drew ?_ | refine blk_alloc ?_ _)); exact BK355.out) hb); have n1_ := Aside0.mk (below_step (by repeat (first | (with_reducible first | exact HB.out | apply below_alloc | apply pw_below_drewN | apply below_drew1 | refine below_set ?_ GE355.out) | exact HB.out)) hb); clear BK355; clear HB; have BK355 := n0_; have HB := n1_; clear n0_ n1_; (try clear hb); (try clear hb2); (try clear hk); (try clear hi); have hcz10_0 : w9.cell? ⟨gb355, 0, none⟩ = some (.int .i64 a0_0) := (blk_cell BK355.out 0).trans rfl; have hcz10_1 : w9.cell? ⟨gb355, 1, none⟩ = some (.slice A0_1 l0_1.length c0_1) := (blk_cell BK355.out 1).trans rfl; have hfz10_0 := blk_frozen BK355.out 0; have hfz10_1 := blk_frozen BK355.out 1) | ((with_reducible refine gate_callee (f := 10) rfl ?_); refine goesL_ (some 12) rfl rfl Try.func10 (by kernel_rfl) rfl #[.agg #[.int .i64 a0_0, .slice A0_1 l0_1.length c0_1]] rfl (by (try simp only [List.map_toArray, List.map_cons, List.map_nil]); first | done | rfl | (simp only [List.length_drop, List.length_take]; rfl)) ?_; (with_reducible refine (registrarlaw10_few.calls k a0_0 (fun k_ => k_ < w.heap.size) _ _ l0_1 t357 t358 _ ?side1 A3.out).mono ?_); (case side1 => exact Kd.V_mk HC0_1.out (Kd.F_below (Kd.C_F k40_heap HR0_1.out) (by repeat (first | (with_reducible first | exact HB.out | apply below_alloc | apply pw_below_drewN | apply below_drew1 | refine below_set ?_ GE355.out) | exact HB.out)))); rintro e w11 ⟨v359, rfl, ho0, hb⟩; refine ⟨_, rfl, ?_⟩; have n0_ := Aside0.mk (Kd.N_lower (Kd.N_mono (ok' := fun k_ => k_ ≠ gb355) ho0 (fun k_ hk_ => Or.elim hk_ (fun hs_ => fun e_ => Nat.not_le.2 hs_ (by rw [e_]; exact GW355.out)) (fun hn_ => (Kd.freshB (g := gb355) (o := .cells #[.int .i64 a0_0, .slice A0_1 l0_1.length c0_1] 24 (0, 0)) (by (with_reducible repeat (first | refine blk_drewN ?_ _ | refine blk_drew ?_ | refine blk_alloc ?_ _)); exact BK355.out) k_ hn_)))) (below_size (by repeat (first | (with_reducible first | exact HB.out | apply below_alloc | apply pw_below_drewN | apply below_drew1 | refine below_set ?_ GE355.out) | exact HB.out)))); have n1_ := Aside0.mk (blk_below (g := gb355) (o := .cells #[.int .i64 a0_0, .slice A0_1 l0_1.length c0_1] 24 (0, 0)) (by (with_reducible repeat (first | refine blk_drewN ?_ _ | refine blk_drew ?_ | refine blk_alloc ?_ _)); exact BK355.out) hb); have n2_ := Aside0.mk (below_step (by repeat (first | (with_reducible first | exact HB.out | apply below_alloc | apply pw_below_drewN | apply below_drew1 | refine below_set ?_ GE355.out) | exact HB.out)) hb); clear BK355; clear HB; have HO360 := n0_; have BK355 := n1_; have HB := n2_; clear n0_ n1_ n2_; (try clear hb); (try clear hb2); (try clear hk); (try clear hi); (try clear ho0); have hcz12_0 : w11.cell? ⟨gb355, 0, none⟩ = some (.int .i64 a0_0) := (blk_cell BK355.out 0).trans rfl; have hcz12_1 : w11.cell? ⟨gb355, 1, none⟩ = some (.slice A0_1 l0_1.length c0_1) := (blk_cell BK355.out 1).trans rfl; have hfz12_0 := blk_frozen BK355.out 0; have hfz12_1 := blk_frozen BK355.out 1; obtain ⟨Ao13, co13, eo13⟩ := Kd.N_slice HO360.out; subst eo13) | ((with_reducible refine gate_callee (f := 11) rfl ?_); refine goesL_ (some 15) rfl rfl Try.func11 (by kernel_rfl) rfl #[.agg #[.int .i64 t357, .slice Ao13 t358.length co13]] rfl (by (try simp only [List.map_toArray, List.map_cons, List.map_nil]); first | done | rfl | (simp only [List.length_drop, List.length_take]; rfl)) ?_; (with_reducible refine (batch_PutG.calls t357 _ _ t358 t361 t364 _ ?side1 ?side2 A4.out).mono ?_); (case side1 => refine (Kd.N_reads' (e := 40) (base := w.heap.size) (ok := fun k_ => k_ ≠ gb355) (n := t358.length) (c := co13) ?_).2.2; exact (by (with_reducible repeat (first | apply Kd.N_alloc | apply Kd.N_drewN | apply Kd.N_drew)); exact (Kd.N_mono (Kd.N_far (p := ⟨gb355, 1, none⟩) (Kd.N_far (p := ⟨gb355, 0, none⟩) (Kd.N_mono HO360.out (fun k_ hk => (⟨hk, hk⟩ : _ ∧ k_ ≠ gb355))) (fun _ hk => hk.2) (.int .i64 t357)) (fun _ hk => hk.2) (.slice Ao13 t358.length co13)) (fun _ h_ => h_.1)))); (case side2 => exact (Kd.N_reads' HO360.out).2.1); rintro e w14 ⟨v362, rfl, ho0, hb⟩; refine ⟨_, rfl, ?_⟩; have n0_ := Aside0.mk (Kd.N_elder' (by (with_reducible repeat (first | apply Kd.N_alloc | apply Kd.N_drewN | apply Kd.N_drew)); exact (Kd.N_mono (Kd.N_far (p := ⟨gb355, 1, none⟩) (Kd.N_far (p := ⟨gb355, 0, none⟩) (Kd.N_mono HO360.out (fun k_ hk => (⟨hk, hk⟩ : _ ∧ k_ ≠ gb355))) (fun _ hk => hk.2) (.int .i64 t357)) (fun _ hk => hk.2) (.slice Ao13 t358.length co13)) (fun _ h_ => h_.1))) (Kd.R_base ho0) hb); have n1_ := Aside0.mk (Kd.R_lower ho0 (below_size (by repeat (first | (with_reducible first | exact HB.out | apply below_alloc | apply pw_below_drewN | apply below_drew1 | refine below_set ?_ GE355.out) | exact HB.out)))); have n2_ := Aside0.mk (blk_below (g := gb355) (o := .cells #[.int .i64 t357, .slice Ao13 t358.length co13] 24 (0, 0)) (by (with_reducible repeat (first | refine blk_drewN ?_ _ | refine blk_drew ?_ | refine blk_alloc ?_ _)); refine blk_put (cs := #[.int .i64 t357, .slice A0_1 l0_1.length c0_1]) ?_ 1 _ rfl; (with_reducible repeat (first | refine blk_drewN ?_ _ | refine blk_drew ?_ | refine blk_alloc ?_ _)); refine blk_put (cs := #[.int .i64 a0_0, .slice A0_1 l0_1.length c0_1]) ?_ 0 _ rfl; (with_reducible repeat (first | refine blk_drewN ?_ _ | refine blk_drew ?_ | refine blk_alloc ?_ _)); exact BK355.out) hb); have n3_ := Aside0.mk (below_step (by repeat (first | (with_reducible first | exact HB.out | apply below_alloc | apply pw_below_drewN | apply below_drew1 | refine below_set ?_ GE355.out) | exact HB.out)) hb); clear HO360; clear BK355; clear HB; have HO360 := n0_; have HO363 := n1_; have BK355 := n2_; have HB := n3_; clear n0_ n1_ n2_ n3_; (try clear hb); (try clear hb2); (try clear hk); (try clear hi); (try clear ho0)))
    have n0_ := Aside0.mk (Kd.N_drew HO360.out)
    have n1_ := Aside0.mk (Kd.R_drew HO363.out)
    have n2_ := Aside0.mk (blk_drew BK355.out)
    have n3_ := Aside0.mk (below_drew1 HB.out)
    clear HO360
    clear HO363
    clear BK355
    clear HB
    have HO360 := n0_
    have HO363 := n1_
    have BK355 := n2_
    have HB := n3_
    clear n0_ n1_ n2_ n3_
    refine start_ (n := 11) (S := fun w' => w'.cell? ⟨gb355, 0, none⟩ = some (.int .i64 t357) ∧ w'.cell? ⟨gb355, 1, none⟩ = some (.slice Ao13 t358.length co13)) (ds := []) #[false, false, false, false, false, false, false, false, false, false, false] (by kernel_rfl) rfl rfl ⟨(blk_cell BK355.out 0).trans rfl, (blk_cell BK355.out 1).trans rfl⟩ (fun hHeld => ?_); refine with_tabW registrarlaw10_BatchMany.tab6 registrarlaw10_BatchMany.bits6 (fun HT_ HW_ => ?_)
    generalize w14.drew = w15 at HO360 HO363 BK355 HB hHeld ⊢
    refine pure_ (i := 0) (N := some 26) (v := ?_) (a' := ?_) #[true, false, false, false, false, false, false, false, false, false, false] rfl rfl (any_of HT_.out (by kernel_rfl)) (fun _ _ _ h => h) (Or.inl ⟨by rfl, ?_⟩) ?_ ?_
    rotate_left
    · intro w'
      go_simp
      with_reducible rfl
    rotate_left
    · simp only [Act.put, List.setIfInBounds_toArray, List.set_cons_zero, List.set_cons_succ, i64_w, i32_w]
      rfl
    refine pure_ (i := 4) (N := some 30) (v := ?_) (a' := ?_) #[true, false, false, false, true, false, false, false, false, false, false] rfl rfl (any_of HT_.out (by kernel_rfl)) (fun _ _ _ h => h) (Or.inl ⟨by rfl, ?_⟩) ?_ ?_
    rotate_left
    · intro w'
      go_simp
      with_reducible rfl
    rotate_left
    · simp only [Act.put, List.setIfInBounds_toArray, List.set_cons_zero, List.set_cons_succ, i64_w, i32_w]
      rfl
    refine take_ (i := 1) (N := some 27) (v := ?_) (a' := ?_) #[true, true, false, false, true, false, false, false, false, false, false] rfl rfl (take_ofW HT_.out HW_.out (by kernel_rfl)) (fun _ _ _ h => h) (Or.inl ⟨by rfl, ?_⟩) hHeld ?_ ?_
    rotate_left
    · rintro w' ⟨s0, s1⟩
      go_simp
      with_reducible rfl
    rotate_left
    · simp only [Act.put, List.setIfInBounds_toArray, List.set_cons_zero, List.set_cons_succ, i64_w, i32_w]
      rfl
    refine take_ (i := 5) (N := some 31) (v := ?_) (a' := ?_) #[true, true, false, false, true, true, false, false, false, false, false] rfl rfl (take_ofW HT_.out HW_.out (by kernel_rfl)) (fun _ _ _ h => h) (Or.inl ⟨by rfl, ?_⟩) hHeld ?_ ?_
    rotate_left
    · rintro w' ⟨s0, s1⟩
      go_simp
      with_reducible rfl
    rotate_left
    · simp only [Act.put, List.setIfInBounds_toArray, List.set_cons_zero, List.set_cons_succ, i64_w, i32_w]
      rfl
    refine pure_ (i := 6) (N := some 32) (v := ?_) (a' := ?_) #[true, true, false, false, true, true, true, false, false, false, false] rfl rfl (any_of HT_.out (by kernel_rfl)) (fun _ _ _ h => h) (Or.inl ⟨by rfl, ?_⟩) ?_ ?_
    rotate_left
    · intro w'
      go_simp
      with_reducible rfl
    rotate_left
    · simp only [Act.put, List.setIfInBounds_toArray, List.set_cons_zero, List.set_cons_succ, i64_w, i32_w]
      rfl
    refine one_ (i := 2) (N := some 28) #[true, true, true, false, true, true, true, false, false, false, false] rfl rfl (one_of HT_.out (by kernel_rfl)) (by decide) (fun K hK => ?_)
    refine goes_ Try.func16 (by kernel_rfl) rfl #[.slice none 0 0, .int .i64 t357] (by rfl) rfl rfl (by (try simp only [List.map_toArray, List.map_cons, List.map_nil]); first | done | rfl | (simp only [List.length_drop, List.length_take]; rfl)) ?_
    refine (registrarref01_Put.calls _ _ ([] : List Int) t357 t365 _ ?side1 ?side2 A6.out).mono ?_
    (case side1 => exact Kd.C_nil _ _)
    (case side2 => exact Nat.le_refl _)
    rintro e w16 ⟨v366, rfl, ho0, hb⟩
    refine ⟨_, rfl, ?_⟩
    have n0_ := Aside0.mk (Kd.N_elder' (by (with_reducible repeat (first | apply Kd.N_alloc | apply Kd.N_drewN | apply Kd.N_drew)); exact HO360.out) (Kd.R_base ho0) hb)
    have n1_ := Aside0.mk (Kd.R_elder' (by (with_reducible repeat (first | apply Kd.R_alloc | apply Kd.R_drewN | apply Kd.R_drew)); exact HO363.out) (Kd.R_base ho0) hb)
    have n2_ := Aside0.mk (Kd.R_lower (Kd.R_new' ho0 (Kd.R_lt (by (with_reducible repeat (first | apply Kd.R_alloc | apply Kd.R_drewN | apply Kd.R_drew)); exact HO363.out))) (below_size (by repeat (first | (with_reducible first | exact HB.out | apply below_alloc | apply pw_below_drewN | apply below_drew1 | refine below_set ?_ GE355.out) | exact HB.out))))
    have n3_ := Aside0.mk (blk_below (g := gb355) (o := .cells #[.int .i64 t357, .slice Ao13 t358.length co13] 24 (0, 0)) (by (with_reducible repeat (first | refine blk_drewN ?_ _ | refine blk_drew ?_ | refine blk_alloc ?_ _)); exact BK355.out) hb)
    have n4_ := Aside0.mk (below_step (by repeat (first | (with_reducible first | exact HB.out | apply below_alloc | apply pw_below_drewN | apply below_drew1 | refine below_set ?_ GE355.out) | exact HB.out)) hb)
    clear HO360
    clear HO363
    clear BK355
    clear HB
    have HO360 := n0_
    have HO363 := n1_
    have HO367 := n2_
    have BK355 := n3_
    have HB := n4_
    clear n0_ n1_ n2_ n3_ n4_
    (try clear hb)
    (try clear hb2)
    (try clear hk)
    (try clear hi)
    (try clear ho0)
    obtain ⟨Ao17, co17, eo17⟩ := Kd.R_slice HO367.out
    (first | subst eo17 | (injection eo17 with f1_ f2_ f3_; have f4_ := f1_.symm; have f5_ := f3_.symm; clear f1_ f2_ f3_; subst f4_; subst f5_))
    refine hK.out _ _ ⟨(blk_cell BK355.out 0).trans rfl, (blk_cell BK355.out 1).trans rfl⟩ (fun hHeld => ?_)
    clear hK K
    refine norm_ (a' := ?_) ?_ ?_
    rotate_left
    · show Act.put _ (some 28) _ = _
      simp only [Act.put, List.setIfInBounds_toArray, List.set_cons_zero, List.set_cons_succ, i64_w, i32_w]
      rfl
    refine pure_ (i := 3) (N := some 29) (v := ?_) (a' := ?_) #[true, true, true, true, true, true, true, false, false, false, false] rfl rfl (any_of HT_.out (by kernel_rfl)) (fun _ _ _ h => h) (Or.inl ⟨by rfl, ?_⟩) ?_ ?_
    rotate_left
    · intro w'
      go_simp
      with_reducible rfl
    rotate_left
    · simp only [Act.put, List.setIfInBounds_toArray, List.set_cons_zero, List.set_cons_succ, i64_w, i32_w]
      rfl
    refine one_ (i := 7) (N := some 33) #[true, true, true, true, true, true, true, true, false, false, false] rfl rfl (one_of HT_.out (by kernel_rfl)) (by decide) (fun K hK => ?_)
    refine goes_ Try.func16 (by kernel_rfl) rfl #[.slice none 0 0, .int .i64 (t358.length : Int)] (by rfl) rfl rfl (by (try simp only [List.map_toArray, List.map_cons, List.map_nil]); first | done | rfl | (simp only [List.length_drop, List.length_take]; rfl)) ?_
    refine (registrarref01_Put.calls _ _ ([] : List Int) (t358.length : Int) t368 _ ?side1 ?side2 A7.out).mono ?_
    (case side1 => exact Kd.C_nil _ _)
    (case side2 => exact Nat.le_refl _)
    rintro e w18 ⟨v369, rfl, ho0, hb⟩
    refine ⟨_, rfl, ?_⟩
    have n0_ := Aside0.mk (Kd.N_elder' (by (with_reducible repeat (first | apply Kd.N_alloc | apply Kd.N_drewN | apply Kd.N_drew)); exact HO360.out) (Kd.R_base ho0) hb)
    have n1_ := Aside0.mk (Kd.R_elder' (by (with_reducible repeat (first | apply Kd.R_alloc | apply Kd.R_drewN | apply Kd.R_drew)); exact HO363.out) (Kd.R_base ho0) hb)
    have n2_ := Aside0.mk (Kd.R_elder' (by (with_reducible repeat (first | apply Kd.R_alloc | apply Kd.R_drewN | apply Kd.R_drew)); exact HO367.out) (Kd.R_base ho0) hb)
    have n3_ := Aside0.mk (Kd.R_lower (Kd.R_new' (Kd.R_new' ho0 (Kd.R_lt (by (with_reducible repeat (first | apply Kd.R_alloc | apply Kd.R_drewN | apply Kd.R_drew)); exact HO363.out))) (Kd.R_lt (by (with_reducible repeat (first | apply Kd.R_alloc | apply Kd.R_drewN | apply Kd.R_drew)); exact HO367.out))) (below_size (by repeat (first | (with_reducible first | exact HB.out | apply below_alloc | apply pw_below_drewN | apply below_drew1 | refine below_set ?_ GE355.out) | exact HB.out))))
    have n4_ := Aside0.mk (blk_below (g := gb355) (o := .cells #[.int .i64 t357, .slice Ao13 t358.length co13] 24 (0, 0)) (by (with_reducible repeat (first | refine blk_drewN ?_ _ | refine blk_drew ?_ | refine blk_alloc ?_ _)); exact BK355.out) hb)
    have n5_ := Aside0.mk (below_step (by repeat (first | (with_reducible first | exact HB.out | apply below_alloc | apply pw_below_drewN | apply below_drew1 | refine below_set ?_ GE355.out) | exact HB.out)) hb)
    clear HO360
    clear HO363
    clear HO367
    clear BK355
    clear HB
    have HO360 := n0_
    have HO363 := n1_
    have HO367 := n2_
    have HO370 := n3_
    have BK355 := n4_
    have HB := n5_
    clear n0_ n1_ n2_ n3_ n4_ n5_
    (try clear hb)
    (try clear hb2)
    (try clear hk)
    (try clear hi)
    (try clear ho0)
    obtain ⟨Ao19, co19, eo19⟩ := Kd.R_slice HO370.out
    (first | subst eo19 | (injection eo19 with f1_ f2_ f3_; have f4_ := f1_.symm; have f5_ := f3_.symm; clear f1_ f2_ f3_; subst f4_; subst f5_))
    refine hK.out _ _ ⟨(blk_cell BK355.out 0).trans rfl, (blk_cell BK355.out 1).trans rfl⟩ (fun hHeld => ?_)
    clear hK K
    refine norm_ (a' := ?_) ?_ ?_
    rotate_left
    · show Act.put _ (some 33) _ = _
      simp only [Act.put, List.setIfInBounds_toArray, List.set_cons_zero, List.set_cons_succ, i64_w, i32_w]
      rfl
    refine pure_ (i := 8) (N := some 34) (v := ?_) (a' := ?_) #[true, true, true, true, true, true, true, true, true, false, false] rfl rfl (any_of HT_.out (by kernel_rfl)) (fun _ _ _ h => h) (Or.inl ⟨by rfl, ?_⟩) ?_ ?_
    rotate_left
    · intro w'
      go_simp
      with_reducible rfl
    rotate_left
    · simp only [Act.put, List.setIfInBounds_toArray, List.set_cons_zero, List.set_cons_succ, i64_w, i32_w]
      rfl
    refine pure_ (i := 9) (N := some 35) (v := ?_) (a' := ?_) #[true, true, true, true, true, true, true, true, true, true, false] rfl rfl (any_of HT_.out (by kernel_rfl)) (fun _ _ _ h => h) (Or.inl ⟨by rfl, ?_⟩) ?_ ?_
    rotate_left
    · intro w'
      go_simp
      with_reducible rfl
    rotate_left
    · simp only [Act.put, List.setIfInBounds_toArray, List.set_cons_zero, List.set_cons_succ, i64_w, i32_w]
      rfl
    refine pure_ (i := 10) (N := some 6) (v := ?_) (a' := ?_) #[true, true, true, true, true, true, true, true, true, true, true] rfl rfl (any_of HT_.out (by kernel_rfl)) (fun _ _ _ h => h) (Or.inl ⟨by rfl, ?_⟩) ?_ ?_
    rotate_left
    · intro w'
      go_simp
      with_reducible rfl
    rotate_left
    · simp only [Act.put, List.setIfInBounds_toArray, List.set_cons_zero, List.set_cons_succ, i64_w, i32_w]
      rfl
    refine done_ (done_of HT_.out (by kernel_rfl)) ?_
    try go_wp2
    go_loopg [6, 7] k (fun kq v6 v7 w' => ∃ (x6_1 : Int) (x7_1 : Int), v6 = .int .i64 x6_1 ∧ v7 = .int .i64 x7_1 ∧ Aside0 (registrarlaw10_BatchMany.l0 kq t356 t361 x6_1 x7_1 t357 t358 = some r) ∧ Aside0 (kq ≤ k) ∧ Aside0 (Kd.R (Kd.int .u8) 5 w' w.heap.size (fun _ => True) v362 t361) ∧ Aside0 (Kd.N k40 40 w' w.heap.size (fun k_ => some k_ ≠ (v362 : Value).ownBlock ∧ k_ ≠ gb355) (.slice Ao13 t358.length co13) t358) ∧ Aside0 (w'.heap[gb355]? = some (.cells #[.int .i64 t357, (.slice Ao13 t358.length co13)] 24 (0, 0))) ∧ Aside0 (Below w.heap.size w w'))
    case atStart => exact ⟨(wrap64 ((t365.length : Int) + (t368.length : Int))), (0), (by first | rfl | (simp; done) | (simp [*]; done)), (by first | rfl | (simp; done) | (simp [*]; done)), H', ⟨Nat.le_refl _⟩, ⟨by (with_reducible repeat (first | apply Kd.R_alloc | apply Kd.R_drewN | apply Kd.R_drew)); exact Kd.R_mono HO363.out (fun _ hk => trivial)⟩, ⟨by (with_reducible repeat (first | apply Kd.N_alloc | apply Kd.N_drewN | apply Kd.N_drew)); exact Kd.N_mono HO360.out (fun _ hk => ⟨hk.1.1.2, hk.1.1.1⟩)⟩, ⟨by (with_reducible repeat (first | refine blk_drewN ?_ _ | refine blk_drew ?_ | refine blk_alloc ?_ _)); exact BK355.out⟩, ⟨by repeat (first | (with_reducible first | exact HB.out | apply below_alloc | apply pw_below_drewN | apply below_drew1 | refine below_set ?_ GE355.out) | exact HB.out)⟩⟩
    case round =>
      clear H'
      try clear c1
      try clear p2
      try clear c5
      try clear c5b0
      try clear c5b1
      try clear c6
      try clear p6
      try clear c9
      try clear c10
      try clear c11
      try clear c16
      try clear hcz10_0
      try clear hcz10_1
      try clear hcz12_0
      try clear hcz12_1
      try clear hfz10_0
      try clear hfz10_1
      try clear hfz12_0
      try clear hfz12_1
      obtain ⟨x6_1, x7_1, rfl, rfl, HA, HK1, HO_4, HO_356001, BK355, HB⟩ := hrel
      cases gk with
      | zero => exact absurd HA.out (by simp [registrarlaw10_BatchMany.l0])
      | succ k1 =>
        have H := HA.out
        clear HA
        simp only [registrarlaw10_BatchMany.l0] at H
        by_cases c20 : x7_1 < (t358.length : Int)
        · rw [if_pos c20] at H
          have c20b0 : decide (x7_1 < (t358.length : Int)) = true := decide_eq_true c20
          clear c20
          by_cases c21 : 0 ≤ x7_1
          · rw [if_pos c21] at H
            have c21b0 : decide (0 ≤ x7_1) = true := decide_eq_true c21
            clear c21
            replace H := Option.bind_eq_some_iff.mp H
            obtain ⟨⟨t372, t375⟩, A220, H⟩ := H
            replace H : (if t375 = 0 then (registrarlaw10_BatchMany.l0 k1 t356 t361 (wrap64 (x6_1 + (t372.length : Int))) (wrap64 (x7_1 + 1)) t357 t358) else (some false)) = some r := H
            have A22 := Aside0.mk A220
            clear A220
            by_cases c23 : t375 = 0
            · rw [if_pos c23] at H
              have c23b0 : (t375 == 0) = true := beq_iff_eq.mpr c23
              have c23b1 : (t375 != 0) = false := bne_eq_false_iff_eq.mpr c23
              clear c23
              have H' := Aside0.mk H
              clear H
              have hcz24_0 : wr.cell? ⟨gb355, 0, none⟩ = some (.int .i64 t357) := (blk_cell BK355.out 0).trans rfl
              have hcz24_1 : wr.cell? ⟨gb355, 1, none⟩ = some (.slice Ao13 t358.length co13) := (blk_cell BK355.out 1).trans rfl
              have hfz24_0 := blk_frozen BK355.out 0
              have hfz24_1 := blk_frozen BK355.out 1
              have p371 : 0 ≤ (x7_1 : Int) := of_decide_eq_true (by first | (with_reducible assumption) | assumption)
              have q371 : x7_1 < (t358.length : Int) := of_decide_eq_true (by first | (with_reducible assumption) | assumption)
              obtain ⟨ad371, A371_2, c371_2, A371_3, c371_3, e371, hx371_0, hx371_1, hx371_2, hx371_3, hl371_2, hi371_2, hl371_3, hi371_3⟩ := at_T40 (Kd.N_reads' HO_356001.out).2.2 x7_1 p371 q371
              cases e371
              obtain ⟨ce371, hce371, hMe371, hcc371⟩ := Kd.N_get HO_356001.out z40 x7_1 p371 (by first | exact q371 | exact of_decide_eq_true (by first | (with_reducible assumption) | assumption) | (have e_ := (Kd.N_reads' HO_356001.out).1; omega))
              obtain ⟨ua371_2, uc371_2, ua371_3, uc371_3, rfl, ul371_2, ge371_2, ul371_3, ge371_3⟩ := k40_openF hMe371
              have hv371_2 := hcc371 2 _ rfl
              rw [add_field _ _ 2 (by omega)] at hv371_2
              replace hv371_2 := Option.some.inj (hv371_2.symm.trans hx371_2)
              injection hv371_2 with hva_ hvn_ hvc_
              rw [hva_] at ge371_2
              rw [hvc_] at ul371_2
              have HL371_2 := Aside0.mk (show Kd.V Kd.string 9 _ w.heap.size _ _ ((rd_T40 t358 x7_1).f2) from Kd.V_mk ul371_2 ge371_2)
              clear hva_ hvn_ hvc_ ge371_2 ul371_2
              have hv371_3 := hcc371 3 _ rfl
              rw [add_field _ _ 3 (by omega)] at hv371_3
              replace hv371_3 := Option.some.inj (hv371_3.symm.trans hx371_3)
              injection hv371_3 with hva_ hvn_ hvc_
              rw [hva_] at ge371_3
              rw [hvc_] at ul371_3
              have HL371_3 := Aside0.mk (show Kd.V k50 50 _ w.heap.size _ _ ((rd_T40 t358 x7_1).f3) from Kd.V_mk ul371_3 ge371_3)
              clear hva_ hvn_ hvc_ ge371_3 ul371_3
              clear hcc371 hce371
              have HR371_2 := Aside0.mk hi371_2
              have HC371_2 := Aside0.mk hl371_2
              clear hi371_2 hl371_2
              have HR371_3 := Aside0.mk hi371_3
              have HC371_3 := Aside0.mk hl371_3
              clear hi371_3 hl371_3
              replace p371 := eq_true p371
              replace q371 := eq_true q371
              go_wp2_with (first | ((with_reducible refine gate_callee (f := 17) rfl ?_); refine goesL_ (some 49) rfl rfl Try.func17 (by kernel_rfl) rfl #[.slice none 0 0, .agg #[.string ((rd_T40 t358 x7_1).f0), .string ((rd_T40 t358 x7_1).f1), .slice A371_2 ((rd_T40 t358 x7_1).f2).length c371_2, .slice A371_3 ((rd_T40 t358 x7_1).f3).length c371_3]] rfl (by (try simp only [List.map_toArray, List.map_cons, List.map_nil]); first | done | rfl | (simp only [List.length_drop, List.length_take]; rfl)) ?_; (refine (evcode_PutG.calls _ _ ([] : List Int) ((rd_T40 t358 x7_1).f0) ((rd_T40 t358 x7_1).f1) _ _ ((rd_T40 t358 x7_1).f2) _ _ ((rd_T40 t358 x7_1).f3) t372 t375 _ ?side1 ?side2 ?side3 ?side4 ?side5 ?side6 A22.out).mono ?_); (case side1 => exact Kd.C_nil _ _); (case side2 => exact Nat.le_refl _); (case side3 => repeat (first | exact (by repeat (first | (with_reducible exact HR371_2.out) | (with_reducible refine Kd.C_alloc ?_ _) | (with_reducible refine Kd.C_drewN ?_ _) | (with_reducible refine Kd.C_drew ?_) | exact HR371_2.out)) | (with_reducible refine Kd.C_alloc ?_ _) | (with_reducible refine Kd.C_drewN ?_ _) | (with_reducible refine Kd.C_drew ?_))); (case side4 => exact HC371_2.out); (case side5 => repeat (first | exact (by repeat (first | (with_reducible exact HR371_3.out) | (with_reducible refine Kd.C_alloc ?_ _) | (with_reducible refine Kd.C_drewN ?_ _) | (with_reducible refine Kd.C_drew ?_) | exact HR371_3.out)) | (with_reducible refine Kd.C_alloc ?_ _) | (with_reducible refine Kd.C_drewN ?_ _) | (with_reducible refine Kd.C_drew ?_))); (case side6 => exact HC371_3.out); rintro e w25 ⟨v373, rfl, ho0, hb⟩; refine ⟨_, rfl, ?_⟩; have n0_ := Aside0.mk (Kd.R_elder' (by (with_reducible repeat (first | apply Kd.R_alloc | apply Kd.R_drewN | apply Kd.R_drew)); exact HO_4.out) (Kd.R_base ho0) hb); have n1_ := Aside0.mk (Kd.N_elder' (by (with_reducible repeat (first | apply Kd.N_alloc | apply Kd.N_drewN | apply Kd.N_drew)); exact HO_356001.out) (Kd.R_base ho0) hb); have n2_ := Aside0.mk (Kd.V_elder' (by (with_reducible repeat (first | apply Kd.V_alloc | apply Kd.V_drewN | apply Kd.V_drew)); exact HL371_2.out) (Kd.R_base ho0) hb); have n3_ := Aside0.mk (Kd.V_elder' (by (with_reducible repeat (first | apply Kd.V_alloc | apply Kd.V_drewN | apply Kd.V_drew)); exact HL371_3.out) (Kd.R_base ho0) hb); have n4_ := Aside0.mk (Kd.R_lower (Kd.R_new' ho0 (Kd.R_lt (by (with_reducible repeat (first | apply Kd.R_alloc | apply Kd.R_drewN | apply Kd.R_drew)); exact HO_4.out))) (below_size (by repeat (first | (with_reducible first | exact HB.out | apply below_alloc | apply pw_below_drewN | apply below_drew1 | refine below_set ?_ GE355.out) | exact HB.out)))); have n5_ := Aside0.mk (blk_below (g := gb355) (o := .cells #[.int .i64 t357, .slice (some ad371) t358.length co13] 24 (0, 0)) (by (with_reducible repeat (first | refine blk_drewN ?_ _ | refine blk_drew ?_ | refine blk_alloc ?_ _)); exact BK355.out) hb); have n6_ := Aside0.mk (Kd.C_below (by repeat (first | (with_reducible exact HR371_2.out) | (with_reducible refine Kd.C_alloc ?_ _) | (with_reducible refine Kd.C_drewN ?_ _) | (with_reducible refine Kd.C_drew ?_) | exact HR371_2.out)) hb); have n7_ := Aside0.mk (Kd.C_below (by repeat (first | (with_reducible exact HR371_3.out) | (with_reducible refine Kd.C_alloc ?_ _) | (with_reducible refine Kd.C_drewN ?_ _) | (with_reducible refine Kd.C_drew ?_) | exact HR371_3.out)) hb); have n8_ := Aside0.mk (below_step (by repeat (first | (with_reducible first | exact HB.out | apply below_alloc | apply pw_below_drewN | apply below_drew1 | refine below_set ?_ GE355.out) | exact HB.out)) hb); clear HO_4; clear HO_356001; clear HL371_2; clear HL371_3; clear BK355; clear HR371_2; clear HR371_3; clear HB; have HO_4 := n0_; have HO_356001 := n1_; have HL371_2 := n2_; have HL371_3 := n3_; have HO374 := n4_; have BK355 := n5_; have HR371_2 := n6_; have HR371_3 := n7_; have HB := n8_; clear n0_ n1_ n2_ n3_ n4_ n5_ n6_ n7_ n8_; (try clear hb); (try clear hb2); (try clear hk); (try clear hi); (try clear ho0); obtain ⟨Ao26, co26, eo26⟩ := Kd.R_slice HO374.out; subst eo26))
              go_roundg k1
              case measure => have := HK1.out; omega
              case rel => exact ⟨(wrap64 (x6_1 + (t372.length : Int))), (wrap64 (x7_1 + 1)), (by first | rfl | (simp; done) | (simp [*]; done)), (by first | rfl | (simp; done) | (simp [*]; done)), H', ⟨by have := HK1.out; omega⟩, ⟨by (with_reducible repeat (first | apply Kd.R_alloc | apply Kd.R_drewN | apply Kd.R_drew)); exact Kd.R_mono HO_4.out (fun _ hk => trivial)⟩, ⟨by (with_reducible repeat (first | apply Kd.N_alloc | apply Kd.N_drewN | apply Kd.N_drew)); exact Kd.N_mono HO_356001.out (fun _ hk => ⟨hk.1.1, hk.1.2⟩)⟩, ⟨by (with_reducible repeat (first | refine blk_drewN ?_ _ | refine blk_drew ?_ | refine blk_alloc ?_ _)); exact BK355.out⟩, ⟨by repeat (first | (with_reducible first | exact HB.out | apply below_alloc | apply pw_below_drewN | apply below_drew1 | refine below_set ?_ GE355.out) | exact HB.out)⟩⟩
            · rw [if_neg c23] at H
              have c23b0 : (t375 == 0) = false := beq_eq_false_iff_ne.mpr c23
              have c23b1 : (t375 != 0) = true := bne_iff_ne.mpr c23
              obtain rfl := Option.some.inj H
              have hcz27_0 : wr.cell? ⟨gb355, 0, none⟩ = some (.int .i64 t357) := (blk_cell BK355.out 0).trans rfl
              have hcz27_1 : wr.cell? ⟨gb355, 1, none⟩ = some (.slice Ao13 t358.length co13) := (blk_cell BK355.out 1).trans rfl
              have hfz27_0 := blk_frozen BK355.out 0
              have hfz27_1 := blk_frozen BK355.out 1
              have p371 : 0 ≤ (x7_1 : Int) := of_decide_eq_true (by first | (with_reducible assumption) | assumption)
              have q371 : x7_1 < (t358.length : Int) := of_decide_eq_true (by first | (with_reducible assumption) | assumption)
              obtain ⟨ad371, A371_2, c371_2, A371_3, c371_3, e371, hx371_0, hx371_1, hx371_2, hx371_3, hl371_2, hi371_2, hl371_3, hi371_3⟩ := at_T40 (Kd.N_reads' HO_356001.out).2.2 x7_1 p371 q371
              cases e371
              obtain ⟨ce371, hce371, hMe371, hcc371⟩ := Kd.N_get HO_356001.out z40 x7_1 p371 (by first | exact q371 | exact of_decide_eq_true (by first | (with_reducible assumption) | assumption) | (have e_ := (Kd.N_reads' HO_356001.out).1; omega))
              obtain ⟨ua371_2, uc371_2, ua371_3, uc371_3, rfl, ul371_2, ge371_2, ul371_3, ge371_3⟩ := k40_openF hMe371
              have hv371_2 := hcc371 2 _ rfl
              rw [add_field _ _ 2 (by omega)] at hv371_2
              replace hv371_2 := Option.some.inj (hv371_2.symm.trans hx371_2)
              injection hv371_2 with hva_ hvn_ hvc_
              rw [hva_] at ge371_2
              rw [hvc_] at ul371_2
              have HL371_2 := Aside0.mk (show Kd.V Kd.string 9 _ w.heap.size _ _ ((rd_T40 t358 x7_1).f2) from Kd.V_mk ul371_2 ge371_2)
              clear hva_ hvn_ hvc_ ge371_2 ul371_2
              have hv371_3 := hcc371 3 _ rfl
              rw [add_field _ _ 3 (by omega)] at hv371_3
              replace hv371_3 := Option.some.inj (hv371_3.symm.trans hx371_3)
              injection hv371_3 with hva_ hvn_ hvc_
              rw [hva_] at ge371_3
              rw [hvc_] at ul371_3
              have HL371_3 := Aside0.mk (show Kd.V k50 50 _ w.heap.size _ _ ((rd_T40 t358 x7_1).f3) from Kd.V_mk ul371_3 ge371_3)
              clear hva_ hvn_ hvc_ ge371_3 ul371_3
              clear hcc371 hce371
              have HR371_2 := Aside0.mk hi371_2
              have HC371_2 := Aside0.mk hl371_2
              clear hi371_2 hl371_2
              have HR371_3 := Aside0.mk hi371_3
              have HC371_3 := Aside0.mk hl371_3
              clear hi371_3 hl371_3
              replace p371 := eq_true p371
              replace q371 := eq_true q371
              go_wp2_with (first | ((with_reducible refine gate_callee (f := 17) rfl ?_); refine goesL_ (some 49) rfl rfl Try.func17 (by kernel_rfl) rfl #[.slice none 0 0, .agg #[.string ((rd_T40 t358 x7_1).f0), .string ((rd_T40 t358 x7_1).f1), .slice A371_2 ((rd_T40 t358 x7_1).f2).length c371_2, .slice A371_3 ((rd_T40 t358 x7_1).f3).length c371_3]] rfl (by (try simp only [List.map_toArray, List.map_cons, List.map_nil]); first | done | rfl | (simp only [List.length_drop, List.length_take]; rfl)) ?_; (refine (evcode_PutG.calls _ _ ([] : List Int) ((rd_T40 t358 x7_1).f0) ((rd_T40 t358 x7_1).f1) _ _ ((rd_T40 t358 x7_1).f2) _ _ ((rd_T40 t358 x7_1).f3) t372 t375 _ ?side1 ?side2 ?side3 ?side4 ?side5 ?side6 A22.out).mono ?_); (case side1 => exact Kd.C_nil _ _); (case side2 => exact Nat.le_refl _); (case side3 => repeat (first | exact (by repeat (first | (with_reducible exact HR371_2.out) | (with_reducible refine Kd.C_alloc ?_ _) | (with_reducible refine Kd.C_drewN ?_ _) | (with_reducible refine Kd.C_drew ?_) | exact HR371_2.out)) | (with_reducible refine Kd.C_alloc ?_ _) | (with_reducible refine Kd.C_drewN ?_ _) | (with_reducible refine Kd.C_drew ?_))); (case side4 => exact HC371_2.out); (case side5 => repeat (first | exact (by repeat (first | (with_reducible exact HR371_3.out) | (with_reducible refine Kd.C_alloc ?_ _) | (with_reducible refine Kd.C_drewN ?_ _) | (with_reducible refine Kd.C_drew ?_) | exact HR371_3.out)) | (with_reducible refine Kd.C_alloc ?_ _) | (with_reducible refine Kd.C_drewN ?_ _) | (with_reducible refine Kd.C_drew ?_))); (case side6 => exact HC371_3.out); rintro e w28 ⟨v373, rfl, ho0, hb⟩; refine ⟨_, rfl, ?_⟩; have n0_ := Aside0.mk (Kd.R_elder' (by (with_reducible repeat (first | apply Kd.R_alloc | apply Kd.R_drewN | apply Kd.R_drew)); exact HO_4.out) (Kd.R_base ho0) hb); have n1_ := Aside0.mk (Kd.N_elder' (by (with_reducible repeat (first | apply Kd.N_alloc | apply Kd.N_drewN | apply Kd.N_drew)); exact HO_356001.out) (Kd.R_base ho0) hb); have n2_ := Aside0.mk (Kd.V_elder' (by (with_reducible repeat (first | apply Kd.V_alloc | apply Kd.V_drewN | apply Kd.V_drew)); exact HL371_2.out) (Kd.R_base ho0) hb); have n3_ := Aside0.mk (Kd.V_elder' (by (with_reducible repeat (first | apply Kd.V_alloc | apply Kd.V_drewN | apply Kd.V_drew)); exact HL371_3.out) (Kd.R_base ho0) hb); have n4_ := Aside0.mk (Kd.R_lower (Kd.R_new' ho0 (Kd.R_lt (by (with_reducible repeat (first | apply Kd.R_alloc | apply Kd.R_drewN | apply Kd.R_drew)); exact HO_4.out))) (below_size (by repeat (first | (with_reducible first | exact HB.out | apply below_alloc | apply pw_below_drewN | apply below_drew1 | refine below_set ?_ GE355.out) | exact HB.out)))); have n5_ := Aside0.mk (blk_below (g := gb355) (o := .cells #[.int .i64 t357, .slice (some ad371) t358.length co13] 24 (0, 0)) (by (with_reducible repeat (first | refine blk_drewN ?_ _ | refine blk_drew ?_ | refine blk_alloc ?_ _)); exact BK355.out) hb); have n6_ := Aside0.mk (Kd.C_below (by repeat (first | (with_reducible exact HR371_2.out) | (with_reducible refine Kd.C_alloc ?_ _) | (with_reducible refine Kd.C_drewN ?_ _) | (with_reducible refine Kd.C_drew ?_) | exact HR371_2.out)) hb); have n7_ := Aside0.mk (Kd.C_below (by repeat (first | (with_reducible exact HR371_3.out) | (with_reducible refine Kd.C_alloc ?_ _) | (with_reducible refine Kd.C_drewN ?_ _) | (with_reducible refine Kd.C_drew ?_) | exact HR371_3.out)) hb); have n8_ := Aside0.mk (below_step (by repeat (first | (with_reducible first | exact HB.out | apply below_alloc | apply pw_below_drewN | apply below_drew1 | refine below_set ?_ GE355.out) | exact HB.out)) hb); clear HO_4; clear HO_356001; clear HL371_2; clear HL371_3; clear BK355; clear HR371_2; clear HR371_3; clear HB; have HO_4 := n0_; have HO_356001 := n1_; have HL371_2 := n2_; have HL371_3 := n3_; have HO374 := n4_; have BK355 := n5_; have HR371_2 := n6_; have HR371_3 := n7_; have HB := n8_; clear n0_ n1_ n2_ n3_ n4_ n5_ n6_ n7_ n8_; (try clear hb); (try clear hb2); (try clear hk); (try clear hi); (try clear ho0)))
              go_ret
              exact ⟨by first | rfl | (simp [errW_none, errW_some] <;> rfl) | (simp [*, errW_none, errW_some] <;> rfl), by repeat (first | (with_reducible first | exact HB.out | apply below_alloc | apply pw_below_drewN | apply below_drew1 | refine below_set ?_ GE355.out) | exact HB.out)⟩
          · rw [if_neg c21] at H
            exact absurd H (by simp)
        · rw [if_neg c20] at H
          have c20b0 : decide (x7_1 < (t358.length : Int)) = false := decide_eq_false c20
          clear c20
          by_cases c29 : t356 = true
          · subst c29
            have H1 : (some ((t361.length : Int) == x6_1)) = some r := by rw [if_pos rfl] at H; exact H
            clear H
            have H := H1
            clear H1
            obtain rfl := Option.some.inj H
            have hcz30_0 : wr.cell? ⟨gb355, 0, none⟩ = some (.int .i64 t357) := (blk_cell BK355.out 0).trans rfl
            have hcz30_1 : wr.cell? ⟨gb355, 1, none⟩ = some (.slice Ao13 t358.length co13) := (blk_cell BK355.out 1).trans rfl
            have hfz30_0 := blk_frozen BK355.out 0
            have hfz30_1 := blk_frozen BK355.out 1
            obtain ⟨Ao31, co31, eo31⟩ := Kd.R_slice HO_4.out
            subst eo31
            go_wp2
            go_ret
            exact ⟨by first | rfl | (simp [errW_none, errW_some] <;> rfl) | (simp [*, errW_none, errW_some] <;> rfl), by repeat (first | (with_reducible first | exact HB.out | apply below_alloc | apply pw_below_drewN | apply below_drew1 | refine below_set ?_ GE355.out) | exact HB.out)⟩
          · replace c29 := Bool.eq_false_iff.mpr c29
            subst c29
            have H1 : (some false) = some r := by rw [if_neg (show ¬ (false = true) by decide)] at H; exact H
            clear H
            have H := H1
            clear H1
            obtain rfl := Option.some.inj H
            have hcz32_0 : wr.cell? ⟨gb355, 0, none⟩ = some (.int .i64 t357) := (blk_cell BK355.out 0).trans rfl
            have hcz32_1 : wr.cell? ⟨gb355, 1, none⟩ = some (.slice Ao13 t358.length co13) := (blk_cell BK355.out 1).trans rfl
            have hfz32_0 := blk_frozen BK355.out 0
            have hfz32_1 := blk_frozen BK355.out 1
            go_wp2
            go_ret
            exact ⟨by first | rfl | (simp [errW_none, errW_some] <;> rfl) | (simp [*, errW_none, errW_some] <;> rfl), by repeat (first | (with_reducible first | exact HB.out | apply below_alloc | apply pw_below_drewN | apply below_drew1 | refine below_set ?_ GE355.out) | exact HB.out)⟩
  · rw [if_neg c5] at H
    have c5b0 : (t364 == 0) = false := beq_eq_false_iff_ne.mpr c5
    have c5b1 : (t364 != 0) = true := bne_iff_ne.mpr c5
    by_cases c33 : t356 = true
    · subst c33
      have H1 : (some ((t361.length : Int) == 0)) = some r := by rw [if_pos rfl] at H; exact H
      clear H
      have H := H1
      clear H1
      obtain rfl := Option.some.inj H
      go_enter Try.func6, Try.ntmps6
      go_wp2_with (first | ((with_reducible refine gate_dst (N := 1) rfl ?_); (try (refine gate_guard (by rfl) ?_; dsimp only)); refine box_event ?hg (N := 1) ?hd (cs := #[.int .i64 a0_0, .slice A0_1 l0_1.length c0_1]) (t := 24) ?hr ?_; (case hd => rfl); (case hg => rfl); (case hr => first | (go_simp; done) | (go_simp; rfl)); intro gb355 hg w34 hbox hb; have n0_ := Aside0.mk (below_step (by repeat (first | (with_reducible first | exact HB.out | apply below_alloc | apply pw_below_drewN | apply below_drew1) | exact HB.out)) hb); have n1_ := Aside0.mk (hbox); have n2_ := Aside0.mk ((by rw [hg]; exact (below_size (by repeat (first | (with_reducible first | exact HB.out | apply below_alloc | apply pw_below_drewN | apply below_drew1) | exact HB.out))) : w.heap.size ≤ gb355)); have n3_ := Aside0.mk ((by rw [hg]; exact (below_size (by repeat (first | (with_reducible first | exact HB.out | apply below_alloc | apply pw_below_drewN | apply below_drew1) | exact HB.out))) : w.heap.size ≤ gb355)); clear HB; have HB := n0_; have BK355 := n1_; have GW355 := n2_; have GE355 := n3_; clear n0_ n1_ n2_ n3_; clear hb hbox hg) | ((with_reducible refine gate_callee (f := 9) rfl ?_); refine goesL_ (some 10) rfl rfl Try.func9 (by kernel_rfl) rfl #[] rfl (by (try simp only [List.map_toArray, List.map_cons, List.map_nil]); first | done | rfl | (simp only [List.length_drop, List.length_take]; rfl)) ?_; (with_reducible refine (registrarlaw10_shown.calls  true _ A2.out).mono ?_); rintro e w35 ⟨rfl, hb⟩; refine ⟨_, rfl, ?_⟩; have n0_ := Aside0.mk (blk_below (g := gb355) (o := .cells #[.int .i64 a0_0, .slice A0_1 l0_1.length c0_1] 24 (0, 0)) (by (with_reducible repeat (first | refine blk_drewN ?_ _ | refine blk_drew ?_ | refine blk_alloc ?_ _)); exact BK355.out) hb); have n1_ := Aside0.mk (below_step (by repeat (first | (with_reducible first | exact HB.out | apply below_alloc | apply pw_below_drewN | apply below_drew1 | refine below_set ?_ GE355.out) | exact HB.out)) hb); clear BK355; clear HB; have BK355 := n0_; have HB := n1_; clear n0_ n1_; (try clear hb); (try clear hb2); (try clear hk); (try clear hi); have hcz36_0 : w35.cell? ⟨gb355, 0, none⟩ = some (.int .i64 a0_0) := (blk_cell BK355.out 0).trans rfl; have hcz36_1 : w35.cell? ⟨gb355, 1, none⟩ = some (.slice A0_1 l0_1.length c0_1) := (blk_cell BK355.out 1).trans rfl; have hfz36_0 := blk_frozen BK355.out 0; have hfz36_1 := blk_frozen BK355.out 1) | ((with_reducible refine gate_callee (f := 10) rfl ?_); refine goesL_ (some 12) rfl rfl Try.func10 (by kernel_rfl) rfl #[.agg #[.int .i64 a0_0, .slice A0_1 l0_1.length c0_1]] rfl (by (try simp only [List.map_toArray, List.map_cons, List.map_nil]); first | done | rfl | (simp only [List.length_drop, List.length_take]; rfl)) ?_; (with_reducible refine (registrarlaw10_few.calls k a0_0 (fun k_ => k_ < w.heap.size) _ _ l0_1 t357 t358 _ ?side1 A3.out).mono ?_); (case side1 => exact Kd.V_mk HC0_1.out (Kd.F_below (Kd.C_F k40_heap HR0_1.out) (by repeat (first | (with_reducible first | exact HB.out | apply below_alloc | apply pw_below_drewN | apply below_drew1 | refine below_set ?_ GE355.out) | exact HB.out)))); rintro e w37 ⟨v359, rfl, ho0, hb⟩; refine ⟨_, rfl, ?_⟩; have n0_ := Aside0.mk (Kd.N_lower (Kd.N_mono (ok' := fun k_ => k_ ≠ gb355) ho0 (fun k_ hk_ => Or.elim hk_ (fun hs_ => fun e_ => Nat.not_le.2 hs_ (by rw [e_]; exact GW355.out)) (fun hn_ => (Kd.freshB (g := gb355) (o := .cells #[.int .i64 a0_0, .slice A0_1 l0_1.length c0_1] 24 (0, 0)) (by (with_reducible repeat (first | refine blk_drewN ?_ _ | refine blk_drew ?_ | refine blk_alloc ?_ _)); exact BK355.out) k_ hn_)))) (below_size (by repeat (first | (with_reducible first | exact HB.out | apply below_alloc | apply pw_below_drewN | apply below_drew1 | refine below_set ?_ GE355.out) | exact HB.out)))); have n1_ := Aside0.mk (blk_below (g := gb355) (o := .cells #[.int .i64 a0_0, .slice A0_1 l0_1.length c0_1] 24 (0, 0)) (by (with_reducible repeat (first | refine blk_drewN ?_ _ | refine blk_drew ?_ | refine blk_alloc ?_ _)); exact BK355.out) hb); have n2_ := Aside0.mk (below_step (by repeat (first | (with_reducible first | exact HB.out | apply below_alloc | apply pw_below_drewN | apply below_drew1 | refine below_set ?_ GE355.out) | exact HB.out)) hb); clear BK355; clear HB; have HO360 := n0_; have BK355 := n1_; have HB := n2_; clear n0_ n1_ n2_; (try clear hb); (try clear hb2); (try clear hk); (try clear hi); (try clear ho0); have hcz38_0 : w37.cell? ⟨gb355, 0, none⟩ = some (.int .i64 a0_0) := (blk_cell BK355.out 0).trans rfl; have hcz38_1 : w37.cell? ⟨gb355, 1, none⟩ = some (.slice A0_1 l0_1.length c0_1) := (blk_cell BK355.out 1).trans rfl; have hfz38_0 := blk_frozen BK355.out 0; have hfz38_1 := blk_frozen BK355.out 1; obtain ⟨Ao39, co39, eo39⟩ := Kd.N_slice HO360.out; subst eo39) | ((with_reducible refine gate_callee (f := 11) rfl ?_); refine goesL_ (some 15) rfl rfl Try.func11 (by kernel_rfl) rfl #[.agg #[.int .i64 t357, .slice Ao39 t358.length co39]] rfl (by (try simp only [List.map_toArray, List.map_cons, List.map_nil]); first | done | rfl | (simp only [List.length_drop, List.length_take]; rfl)) ?_; (with_reducible refine (batch_PutG.calls t357 _ _ t358 t361 t364 _ ?side1 ?side2 A4.out).mono ?_); (case side1 => refine (Kd.N_reads' (e := 40) (base := w.heap.size) (ok := fun k_ => k_ ≠ gb355) (n := t358.length) (c := co39) ?_).2.2; exact (by (with_reducible repeat (first | apply Kd.N_alloc | apply Kd.N_drewN | apply Kd.N_drew)); exact (Kd.N_mono (Kd.N_far (p := ⟨gb355, 1, none⟩) (Kd.N_far (p := ⟨gb355, 0, none⟩) (Kd.N_mono HO360.out (fun k_ hk => (⟨hk, hk⟩ : _ ∧ k_ ≠ gb355))) (fun _ hk => hk.2) (.int .i64 t357)) (fun _ hk => hk.2) (.slice Ao39 t358.length co39)) (fun _ h_ => h_.1)))); (case side2 => exact (Kd.N_reads' HO360.out).2.1); rintro e w40 ⟨v362, rfl, ho0, hb⟩; refine ⟨_, rfl, ?_⟩; have n0_ := Aside0.mk (Kd.N_elder' (by (with_reducible repeat (first | apply Kd.N_alloc | apply Kd.N_drewN | apply Kd.N_drew)); exact (Kd.N_mono (Kd.N_far (p := ⟨gb355, 1, none⟩) (Kd.N_far (p := ⟨gb355, 0, none⟩) (Kd.N_mono HO360.out (fun k_ hk => (⟨hk, hk⟩ : _ ∧ k_ ≠ gb355))) (fun _ hk => hk.2) (.int .i64 t357)) (fun _ hk => hk.2) (.slice Ao39 t358.length co39)) (fun _ h_ => h_.1))) (Kd.R_base ho0) hb); have n1_ := Aside0.mk (Kd.R_lower ho0 (below_size (by repeat (first | (with_reducible first | exact HB.out | apply below_alloc | apply pw_below_drewN | apply below_drew1 | refine below_set ?_ GE355.out) | exact HB.out)))); have n2_ := Aside0.mk (blk_below (g := gb355) (o := .cells #[.int .i64 t357, .slice Ao39 t358.length co39] 24 (0, 0)) (by (with_reducible repeat (first | refine blk_drewN ?_ _ | refine blk_drew ?_ | refine blk_alloc ?_ _)); refine blk_put (cs := #[.int .i64 t357, .slice A0_1 l0_1.length c0_1]) ?_ 1 _ rfl; (with_reducible repeat (first | refine blk_drewN ?_ _ | refine blk_drew ?_ | refine blk_alloc ?_ _)); refine blk_put (cs := #[.int .i64 a0_0, .slice A0_1 l0_1.length c0_1]) ?_ 0 _ rfl; (with_reducible repeat (first | refine blk_drewN ?_ _ | refine blk_drew ?_ | refine blk_alloc ?_ _)); exact BK355.out) hb); have n3_ := Aside0.mk (below_step (by repeat (first | (with_reducible first | exact HB.out | apply below_alloc | apply pw_below_drewN | apply below_drew1 | refine below_set ?_ GE355.out) | exact HB.out)) hb); clear HO360; clear BK355; clear HB; have HO360 := n0_; have HO363 := n1_; have BK355 := n2_; have HB := n3_; clear n0_ n1_ n2_ n3_; (try clear hb); (try clear hb2); (try clear hk); (try clear hi); (try clear ho0); obtain ⟨Ao41, co41, eo41⟩ := Kd.R_slice HO363.out; subst eo41))
      go_ret
      exact ⟨by first | rfl | (simp [errW_none, errW_some] <;> rfl) | (simp [*, errW_none, errW_some] <;> rfl), by repeat (first | (with_reducible first | exact HB.out | apply below_alloc | apply pw_below_drewN | apply below_drew1 | refine below_set ?_ GE355.out) | exact HB.out)⟩
    · replace c33 := Bool.eq_false_iff.mpr c33
      subst c33
      have H1 : (some false) = some r := by rw [if_neg (show ¬ (false = true) by decide)] at H; exact H
      clear H
      have H := H1
      clear H1
      obtain rfl := Option.some.inj H
      go_enter Try.func6, Try.ntmps6
      go_wp2_with (first | ((with_reducible refine gate_dst (N := 1) rfl ?_); (try (refine gate_guard (by rfl) ?_; dsimp only)); refine box_event ?hg (N := 1) ?hd (cs := #[.int .i64 a0_0, .slice A0_1 l0_1.length c0_1]) (t := 24) ?hr ?_; (case hd => rfl); (case hg => rfl); (case hr => first | (go_simp; done) | (go_simp; rfl)); intro gb355 hg w42 hbox hb; have n0_ := Aside0.mk (below_step (by repeat (first | (with_reducible first | exact HB.out | apply below_alloc | apply pw_below_drewN | apply below_drew1) | exact HB.out)) hb); have n1_ := Aside0.mk (hbox); have n2_ := Aside0.mk ((by rw [hg]; exact (below_size (by repeat (first | (with_reducible first | exact HB.out | apply below_alloc | apply pw_below_drewN | apply below_drew1) | exact HB.out))) : w.heap.size ≤ gb355)); have n3_ := Aside0.mk ((by rw [hg]; exact (below_size (by repeat (first | (with_reducible first | exact HB.out | apply below_alloc | apply pw_below_drewN | apply below_drew1) | exact HB.out))) : w.heap.size ≤ gb355)); clear HB; have HB := n0_; have BK355 := n1_; have GW355 := n2_; have GE355 := n3_; clear n0_ n1_ n2_ n3_; clear hb hbox hg) | ((with_reducible refine gate_callee (f := 9) rfl ?_); refine goesL_ (some 10) rfl rfl Try.func9 (by kernel_rfl) rfl #[] rfl (by (try simp only [List.map_toArray, List.map_cons, List.map_nil]); first | done | rfl | (simp only [List.length_drop, List.length_take]; rfl)) ?_; (with_reducible refine (registrarlaw10_shown.calls  false _ A2.out).mono ?_); rintro e w43 ⟨rfl, hb⟩; refine ⟨_, rfl, ?_⟩; have n0_ := Aside0.mk (blk_below (g := gb355) (o := .cells #[.int .i64 a0_0, .slice A0_1 l0_1.length c0_1] 24 (0, 0)) (by (with_reducible repeat (first | refine blk_drewN ?_ _ | refine blk_drew ?_ | refine blk_alloc ?_ _)); exact BK355.out) hb); have n1_ := Aside0.mk (below_step (by repeat (first | (with_reducible first | exact HB.out | apply below_alloc | apply pw_below_drewN | apply below_drew1 | refine below_set ?_ GE355.out) | exact HB.out)) hb); clear BK355; clear HB; have BK355 := n0_; have HB := n1_; clear n0_ n1_; (try clear hb); (try clear hb2); (try clear hk); (try clear hi); have hcz44_0 : w43.cell? ⟨gb355, 0, none⟩ = some (.int .i64 a0_0) := (blk_cell BK355.out 0).trans rfl; have hcz44_1 : w43.cell? ⟨gb355, 1, none⟩ = some (.slice A0_1 l0_1.length c0_1) := (blk_cell BK355.out 1).trans rfl; have hfz44_0 := blk_frozen BK355.out 0; have hfz44_1 := blk_frozen BK355.out 1) | ((with_reducible refine gate_callee (f := 10) rfl ?_); refine goesL_ (some 12) rfl rfl Try.func10 (by kernel_rfl) rfl #[.agg #[.int .i64 a0_0, .slice A0_1 l0_1.length c0_1]] rfl (by (try simp only [List.map_toArray, List.map_cons, List.map_nil]); first | done | rfl | (simp only [List.length_drop, List.length_take]; rfl)) ?_; (with_reducible refine (registrarlaw10_few.calls k a0_0 (fun k_ => k_ < w.heap.size) _ _ l0_1 t357 t358 _ ?side1 A3.out).mono ?_); (case side1 => exact Kd.V_mk HC0_1.out (Kd.F_below (Kd.C_F k40_heap HR0_1.out) (by repeat (first | (with_reducible first | exact HB.out | apply below_alloc | apply pw_below_drewN | apply below_drew1 | refine below_set ?_ GE355.out) | exact HB.out)))); rintro e w45 ⟨v359, rfl, ho0, hb⟩; refine ⟨_, rfl, ?_⟩; have n0_ := Aside0.mk (Kd.N_lower (Kd.N_mono (ok' := fun k_ => k_ ≠ gb355) ho0 (fun k_ hk_ => Or.elim hk_ (fun hs_ => fun e_ => Nat.not_le.2 hs_ (by rw [e_]; exact GW355.out)) (fun hn_ => (Kd.freshB (g := gb355) (o := .cells #[.int .i64 a0_0, .slice A0_1 l0_1.length c0_1] 24 (0, 0)) (by (with_reducible repeat (first | refine blk_drewN ?_ _ | refine blk_drew ?_ | refine blk_alloc ?_ _)); exact BK355.out) k_ hn_)))) (below_size (by repeat (first | (with_reducible first | exact HB.out | apply below_alloc | apply pw_below_drewN | apply below_drew1 | refine below_set ?_ GE355.out) | exact HB.out)))); have n1_ := Aside0.mk (blk_below (g := gb355) (o := .cells #[.int .i64 a0_0, .slice A0_1 l0_1.length c0_1] 24 (0, 0)) (by (with_reducible repeat (first | refine blk_drewN ?_ _ | refine blk_drew ?_ | refine blk_alloc ?_ _)); exact BK355.out) hb); have n2_ := Aside0.mk (below_step (by repeat (first | (with_reducible first | exact HB.out | apply below_alloc | apply pw_below_drewN | apply below_drew1 | refine below_set ?_ GE355.out) | exact HB.out)) hb); clear BK355; clear HB; have HO360 := n0_; have BK355 := n1_; have HB := n2_; clear n0_ n1_ n2_; (try clear hb); (try clear hb2); (try clear hk); (try clear hi); (try clear ho0); have hcz46_0 : w45.cell? ⟨gb355, 0, none⟩ = some (.int .i64 a0_0) := (blk_cell BK355.out 0).trans rfl; have hcz46_1 : w45.cell? ⟨gb355, 1, none⟩ = some (.slice A0_1 l0_1.length c0_1) := (blk_cell BK355.out 1).trans rfl; have hfz46_0 := blk_frozen BK355.out 0; have hfz46_1 := blk_frozen BK355.out 1; obtain ⟨Ao47, co47, eo47⟩ := Kd.N_slice HO360.out; subst eo47) | ((with_reducible refine gate_callee (f := 11) rfl ?_); refine goesL_ (some 15) rfl rfl Try.func11 (by kernel_rfl) rfl #[.agg #[.int .i64 t357, .slice Ao47 t358.length co47]] rfl (by (try simp only [List.map_toArray, List.map_cons, List.map_nil]); first | done | rfl | (simp only [List.length_drop, List.length_take]; rfl)) ?_; (with_reducible refine (batch_PutG.calls t357 _ _ t358 t361 t364 _ ?side1 ?side2 A4.out).mono ?_); (case side1 => refine (Kd.N_reads' (e := 40) (base := w.heap.size) (ok := fun k_ => k_ ≠ gb355) (n := t358.length) (c := co47) ?_).2.2; exact (by (with_reducible repeat (first | apply Kd.N_alloc | apply Kd.N_drewN | apply Kd.N_drew)); exact (Kd.N_mono (Kd.N_far (p := ⟨gb355, 1, none⟩) (Kd.N_far (p := ⟨gb355, 0, none⟩) (Kd.N_mono HO360.out (fun k_ hk => (⟨hk, hk⟩ : _ ∧ k_ ≠ gb355))) (fun _ hk => hk.2) (.int .i64 t357)) (fun _ hk => hk.2) (.slice Ao47 t358.length co47)) (fun _ h_ => h_.1)))); (case side2 => exact (Kd.N_reads' HO360.out).2.1); rintro e w48 ⟨v362, rfl, ho0, hb⟩; refine ⟨_, rfl, ?_⟩; have n0_ := Aside0.mk (Kd.N_elder' (by (with_reducible repeat (first | apply Kd.N_alloc | apply Kd.N_drewN | apply Kd.N_drew)); exact (Kd.N_mono (Kd.N_far (p := ⟨gb355, 1, none⟩) (Kd.N_far (p := ⟨gb355, 0, none⟩) (Kd.N_mono HO360.out (fun k_ hk => (⟨hk, hk⟩ : _ ∧ k_ ≠ gb355))) (fun _ hk => hk.2) (.int .i64 t357)) (fun _ hk => hk.2) (.slice Ao47 t358.length co47)) (fun _ h_ => h_.1))) (Kd.R_base ho0) hb); have n1_ := Aside0.mk (Kd.R_lower ho0 (below_size (by repeat (first | (with_reducible first | exact HB.out | apply below_alloc | apply pw_below_drewN | apply below_drew1 | refine below_set ?_ GE355.out) | exact HB.out)))); have n2_ := Aside0.mk (blk_below (g := gb355) (o := .cells #[.int .i64 t357, .slice Ao47 t358.length co47] 24 (0, 0)) (by (with_reducible repeat (first | refine blk_drewN ?_ _ | refine blk_drew ?_ | refine blk_alloc ?_ _)); refine blk_put (cs := #[.int .i64 t357, .slice A0_1 l0_1.length c0_1]) ?_ 1 _ rfl; (with_reducible repeat (first | refine blk_drewN ?_ _ | refine blk_drew ?_ | refine blk_alloc ?_ _)); refine blk_put (cs := #[.int .i64 a0_0, .slice A0_1 l0_1.length c0_1]) ?_ 0 _ rfl; (with_reducible repeat (first | refine blk_drewN ?_ _ | refine blk_drew ?_ | refine blk_alloc ?_ _)); exact BK355.out) hb); have n3_ := Aside0.mk (below_step (by repeat (first | (with_reducible first | exact HB.out | apply below_alloc | apply pw_below_drewN | apply below_drew1 | refine below_set ?_ GE355.out) | exact HB.out)) hb); clear HO360; clear BK355; clear HB; have HO360 := n0_; have HO363 := n1_; have BK355 := n2_; have HB := n3_; clear n0_ n1_ n2_ n3_; (try clear hb); (try clear hb2); (try clear hk); (try clear hi); (try clear ho0)))
      go_ret
      exact ⟨by first | rfl | (simp [errW_none, errW_some] <;> rfl) | (simp [*, errW_none, errW_some] <;> rfl), by repeat (first | (with_reducible first | exact HB.out | apply below_alloc | apply pw_below_drewN | apply below_drew1 | refine below_set ?_ GE355.out) | exact HB.out)⟩

end Go.Proofs.Ytafeakcajhhkoaa.Prt
namespace Go.Proofs.Ytafeakcajhhkoaa.Prt
open Go.RowKit Go.Proofs.YtafeakcajhhkoaaW.PrintWords Go.Proofs.YtafeakcajhhkoaaW.PrintLast Go.Proofs.YtafeakcajhhkoaaW.PrintMore Go.Proofs.Ytafeakcajhhkoaa.Num Go.Proofs.Ytafeakcajhhkoaa.Nam
set_option linter.unusedVariables false
set_option linter.unusedSimpArgs false

theorem wrapZ {n : Int} (h0 : 0 ≤ n) (h1 : n ≤ 1000000) : wrap64 n = n := wrapI (by omega) (by omega)
theorem many_loop (a : Int) (b : List Int) (l : List S40) (hl : l.length ≤ 16) (ho : ∀ x ∈ l, OkX x) : ∀ (n i k c : Nat), i + n = l.length → n < k → c + 700 * n ≤ 100000 → c + (encEs (l.drop i)).length = b.length → registrarlaw10_BatchMany.l0 k true b (c : Int) (i : Int) a l = some true := by
  intro n
  induction n with
  | zero =>
    intro i k c hi hk hc hb
    obtain ⟨k, rfl⟩ : ∃ m, k = m + 1 := ⟨k - 1, by omega⟩
    rw [List.drop_eq_nil_of_le (by omega)] at hb
    have hb' : c = b.length := by simpa [encEs] using hb
    rw [registrarlaw10_BatchMany.l0, if_neg (by omega), if_pos rfl, hb']; simp
  | succ n ih =>
    intro i k c hi hk hc hb
    obtain ⟨k, rfl⟩ : ∃ m, k = m + 1 := ⟨k - 1, by omega⟩
    have hm := ho _ (rdE_mem (l := l) (i := i) (by omega))
    have hz := encX_size hm
    rw [drop_rdE l i (by omega), encEs_cons, List.length_append] at hb
    rw [registrarlaw10_BatchMany.l0, if_pos (by omega), if_pos (by omega), putG_okX (by simp) hm]
    simp only [Option.bind_some, if_true, List.nil_append]
    rw [wrapZ (n := (c : Int) + _) (by omega) (by omega), succW i (by omega)]
    have e : (c : Int) + ((encX (rd_T40 l (i : Int))).length : Int) = ((c + (encX (rd_T40 l (i : Int))).length : Nat) : Int) := by omega
    rw [e]
    exact ih (i + 1) k _ (by omega) (by omega) (by omega) (by omega)
theorem batchMany_true (a : Int) (l : List S40) (hf : FitsB l) : registrarlaw10_BatchMany.f 60 a l = some true := by
  unfold registrarlaw10_BatchMany.f
  rw [shown10, few10 (by omega)]
  simp only [Option.bind_some]
  rw [batchPutG_ok (fewL_fit hf)]
  simp only [Option.bind_some]
  by_cases h0 : mayB a (fewL l) = 0
  · have ok := mayB_zero.1 h0
    obtain ⟨h1, h2, h3, h4, h5⟩ := ok
    have e1 := enc_len (x := a) ⟨by omega, by omega⟩
    have e2 := enc_len (x := ((fewL l).length : Int)) ⟨by omega, by omega⟩
    have m2 : registrarref01_Put.f [] a = some ([] ++ enc a) := if_pos ⟨by simp, by omega, by omega⟩
    have m3 : registrarref01_Put.f [] ((fewL l).length : Int) = some ([] ++ enc ((fewL l).length : Int)) := if_pos ⟨by simp, by omega, by omega⟩
    rw [if_pos h0, m2]
    simp only [Option.bind_some, List.nil_append, if_true]
    rw [m3]
    simp only [Option.bind_some, List.nil_append]
    rw [wrapZ (by omega) (by omega)]
    have e : ((enc a).length : Int) + ((enc ((fewL l).length : Int)).length : Int) = (((enc a).length + (enc ((fewL l).length : Int)).length : Nat) : Int) := by omega
    rw [e]
    refine many_loop a _ _ h2 h3 (fewL l).length 0 60 _ (by omega) (by omega) (by omega) ?_
    rw [List.drop_zero]
    unfold encB
    rw [List.length_append, List.length_append]; omega
  · rw [if_neg h0]
    simp only [if_neg h0, if_true]
    rfl
end Go.Proofs.Ytafeakcajhhkoaa.Prt
namespace Go.Proofs.Ytafeakcajhhkoaa.Gen
open Go.RowKit Go.Proofs.YtafeakcajhhkoaaW.PrintWords Go.Proofs.YtafeakcajhhkoaaW.PrintLast Go.Proofs.YtafeakcajhhkoaaW.PrintMore
set_option linter.unusedVariables false
set_option linter.unusedSimpArgs false

theorem list_of {α : Type} {p : Nat → α → Prop} : ∀ n : Nat, (∀ i, i < n → ∃ x, p i x) → ∃ xs : List α, xs.length = n ∧ ∀ i x, xs[i]? = some x → p i x := by
  intro n
  induction n with
  | zero => exact fun _ => ⟨[], rfl, fun i x h => by simp at h⟩
  | succ n ih =>
    intro h
    obtain ⟨xs, h1, h2⟩ := ih (fun i hi => h i (by omega))
    obtain ⟨y, hy⟩ := h n (by omega)
    refine ⟨xs ++ [y], by simp [h1], fun i x hx => ?_⟩
    rcases Nat.lt_or_ge i xs.length with hi | hi
    · rw [List.getElem?_append_left hi] at hx; exact h2 i x hx
    · have hl := (List.getElem?_eq_some_iff.1 hx).1
      rw [List.length_append, List.length_singleton] at hl
      obtain rfl : i = xs.length := by omega
      rw [List.getElem?_append_right hi] at hx
      simp at hx
      subst hx
      rw [h1]; exact hy
/-- Whatever reads as data of type t stands as an x of kind k that is ok. -/
def Opens {α : Type} (P : Program) (t : TypeId) (k : Kd α) (ok : α → Prop) : Prop :=
  ∀ {H : Type} (enc : TypeId × Value → H) (w : World) (base : Nat) (spare : Nat → Bool) (held : Bool) (fuel : Nat) (cs : List Value) (y : DataW H × List MemPlace), DataW.trod enc P w base spare held fuel t cs = some y → ∃ x, k.K w x cs ∧ ok x
section
variable {P : Program} {t e : TypeId}
theorem opens_int {k : IntKind} (ht : P.underlying t = some (.int k)) : Opens P t (Kd.int k) (fun n => (Lit.int k n).wf = true) := by
  intro H enc w base spare held fuel cs y h
  obtain ⟨n, rfl, _, h2⟩ := DataW.trod_int ht h
  exact ⟨n, rfl, h2⟩
theorem opens_string (ht : P.underlying t = some .string) : Opens P t Kd.string (fun s => s.size ≤ maxLen) := by
  intro H enc w base spare held fuel cs y h
  obtain ⟨s, rfl, _, h2⟩ := DataW.trod_string ht h
  exact ⟨s, rfl, h2⟩
theorem opens_slice {α : Type} {k : Kd α} {ok : α → Prop} (ht : P.underlying t = some (.slice e)) (hc : P.cellsOf e = k.sz) (he : Opens P e k ok) : Opens P t (Kd.slice e k) (fun xs => ∀ x ∈ xs, ok x) := by
  intro H enc w base spare held fuel cs y h
  rcases DataW.trod_slice ht h with ⟨rfl, _⟩ | ⟨a, len, cap, elems, rest, n, _, rfl, _, hb, hl, hm, hlen, hel, _, _⟩
  · exact ⟨[], ⟨none, 0, rfl, Nat.le_refl _, Kd.C_nil _ _⟩, fun x hx => by simp at hx⟩
  · have key : ∀ i, i < len → ∃ x, (∃ c, c.length = k.sz ∧ k.K w x c ∧ ∀ j u, c[j]? = some u → w.cell? (a.add (i * k.sz + j)) = some u) ∧ ok x := by
      intro i hi
      have h1 := hel i hi
      have h2 : elems[i]? = some elems[i] := List.getElem?_eq_getElem (by omega)
      rw [h2] at h1
      obtain ⟨c, hcells, htrod⟩ := Option.bind_eq_some_iff.1 h1
      obtain ⟨x, hx, hok⟩ := he enc w base spare held n c _ htrod
      obtain ⟨_, hcl, hcc⟩ := World.cells?_some hcells
      refine ⟨x, ⟨c, by rw [hcl, hc], hx, fun j u hj => ?_⟩, hok⟩
      have hjl : j < P.cellsOf e := by rw [← hcl]; exact (List.getElem?_eq_some_iff.1 hj).1
      have h3 := hcc j hjl
      rw [hj, hc] at h3
      rw [← h3]
      congr 1
      exact (Go.Deep.add_add a (i * k.sz) j).symm
    obtain ⟨xs, hxl, hx⟩ := list_of len key
    refine ⟨xs, ⟨some a, cap, by rw [hxl], by rw [hxl]; exact hl, hxl ▸ rfl, by rw [hxl]; simp only [maxLen] at hm; omega, fun _ => ⟨a, rfl, fun j p hp => (hx j p hp).1⟩⟩, fun x hxm => ?_⟩
    obtain ⟨j, hj⟩ := List.mem_iff_getElem?.1 hxm
    exact (hx j x hj).2
end
end Go.Proofs.Ytafeakcajhhkoaa.Gen
namespace Go.Proofs.Ytafeakcajhhkoaa.Gen
open Go.RowKit Go.Proofs.YtafeakcajhhkoaaW.PrintWords Go.Proofs.YtafeakcajhhkoaaW.PrintLast Go.Proofs.YtafeakcajhhkoaaW.PrintMore Go.Proofs.Ytafeakcajhhkoaa.Prt
set_option linter.unusedVariables false
set_option linter.unusedSimpArgs false
theorem opens_str : Opens Try.prog 9 Kd.string (fun s => s.size ≤ maxLen) := opens_string Try.underlying9
theorem opens_i64 : Opens Try.prog 3 (Kd.int .i64) (fun n => (Lit.int .i64 n).wf = true) := opens_int Try.underlying3
theorem opens_strs : Opens Try.prog 37 (Kd.slice 9 Kd.string) (fun xs => ∀ x ∈ xs, x.size ≤ maxLen) := opens_slice Try.underlying37 (by kernel_rfl) opens_str
theorem opens_field : Opens Try.prog 50 k50 (fun x => x.f0.size ≤ maxLen ∧ (Lit.int .i64 x.f1).wf = true) := by
  intro H enc w base spare held fuel cs y h
  obtain ⟨xs, n, _, _, hl, hlen, hf⟩ := DataW.trod_struct Try.underlying50 h
  rw [show Try.prog.cellsOf 50 = 2 from by kernel_rfl] at hl
  have hlen' : xs.length = 2 := hlen
  have h0 := hf 0 _ rfl
  rw [List.getElem?_eq_getElem (l := xs) (i := 0) (by omega)] at h0
  replace h0 : DataW.trod enc Try.prog w base spare held n 9 ((cs.drop 0).take (Try.prog.cellsOf 9)) = some xs[0] := h0
  rw [show Try.prog.cellsOf 9 = 1 from by kernel_rfl] at h0
  obtain ⟨x0, K0, o0⟩ := opens_str enc w base spare held n _ _ h0
  have h1 := hf 1 _ rfl
  rw [List.getElem?_eq_getElem (l := xs) (i := 1) (by omega)] at h1
  replace h1 : DataW.trod enc Try.prog w base spare held n 3 ((cs.drop 1).take (Try.prog.cellsOf 3)) = some xs[1] := h1
  rw [show Try.prog.cellsOf 3 = 1 from by kernel_rfl] at h1
  obtain ⟨x1, K1, o1⟩ := opens_i64 enc w base spare held n _ _ h1
  have e : cs = (cs.drop 0).take 1 ++ ((cs.drop 1).take 1) := by
    have g0 : cs.drop 0 = (cs.drop 0).take 1 ++ cs.drop 1 := by rw [show cs.drop 1 = (cs.drop 0).drop 1 from by rw [List.drop_drop], List.take_append_drop]
    have g1 : cs.drop 1 = (cs.drop 1).take 1 ++ cs.drop 2 := by rw [show cs.drop 2 = (cs.drop 1).drop 1 from by rw [List.drop_drop], List.take_append_drop]
    have z : cs.drop 2 = [] := List.drop_eq_nil_of_le (by omega)
    rw [z, List.append_nil] at g1
    calc cs = cs.drop 0 := rfl
      _ = (cs.drop 0).take 1 ++ ((cs.drop 1).take 1) := by rw [← g1]; exact g0
  refine ⟨⟨x0, x1⟩, ?_, o0, o1⟩
  rw [e]
  exact ⟨_, _, rfl, K0, K1⟩
theorem opens_fields : Opens Try.prog 38 (Kd.slice 50 k50) (fun xs => ∀ x ∈ xs, x.f0.size ≤ maxLen ∧ (Lit.int .i64 x.f1).wf = true) := opens_slice Try.underlying38 (by kernel_rfl) opens_field
theorem opens_event : Opens Try.prog 40 k40 (fun x => x.f0.size ≤ maxLen ∧ x.f1.size ≤ maxLen ∧ (∀ z ∈ x.f2, z.size ≤ maxLen) ∧ (∀ z ∈ x.f3, z.f0.size ≤ maxLen ∧ (Lit.int .i64 z.f1).wf = true)) := by
  intro H enc w base spare held fuel cs y h
  obtain ⟨xs, n, _, _, hl, hlen, hf⟩ := DataW.trod_struct Try.underlying40 h
  rw [show Try.prog.cellsOf 40 = 4 from by kernel_rfl] at hl
  have hlen' : xs.length = 4 := hlen
  have h0 := hf 0 _ rfl
  rw [List.getElem?_eq_getElem (l := xs) (i := 0) (by omega)] at h0
  replace h0 : DataW.trod enc Try.prog w base spare held n 9 ((cs.drop 0).take (Try.prog.cellsOf 9)) = some xs[0] := h0
  rw [show Try.prog.cellsOf 9 = 1 from by kernel_rfl] at h0
  obtain ⟨x0, K0, o0⟩ := opens_str enc w base spare held n _ _ h0
  have h1 := hf 1 _ rfl
  rw [List.getElem?_eq_getElem (l := xs) (i := 1) (by omega)] at h1
  replace h1 : DataW.trod enc Try.prog w base spare held n 9 ((cs.drop 1).take (Try.prog.cellsOf 9)) = some xs[1] := h1
  rw [show Try.prog.cellsOf 9 = 1 from by kernel_rfl] at h1
  obtain ⟨x1, K1, o1⟩ := opens_str enc w base spare held n _ _ h1
  have h2 := hf 2 _ rfl
  rw [List.getElem?_eq_getElem (l := xs) (i := 2) (by omega)] at h2
  replace h2 : DataW.trod enc Try.prog w base spare held n 37 ((cs.drop 2).take (Try.prog.cellsOf 37)) = some xs[2] := h2
  rw [show Try.prog.cellsOf 37 = 1 from by kernel_rfl] at h2
  obtain ⟨x2, K2, o2⟩ := opens_strs enc w base spare held n _ _ h2
  have h3 := hf 3 _ rfl
  rw [List.getElem?_eq_getElem (l := xs) (i := 3) (by omega)] at h3
  replace h3 : DataW.trod enc Try.prog w base spare held n 38 ((cs.drop 3).take (Try.prog.cellsOf 38)) = some xs[3] := h3
  rw [show Try.prog.cellsOf 38 = 1 from by kernel_rfl] at h3
  obtain ⟨x3, K3, o3⟩ := opens_fields enc w base spare held n _ _ h3
  have e : cs = (cs.drop 0).take 1 ++ ((cs.drop 1).take 1 ++ ((cs.drop 2).take 1 ++ ((cs.drop 3).take 1))) := by
    have g0 : cs.drop 0 = (cs.drop 0).take 1 ++ cs.drop 1 := by rw [show cs.drop 1 = (cs.drop 0).drop 1 from by rw [List.drop_drop], List.take_append_drop]
    have g1 : cs.drop 1 = (cs.drop 1).take 1 ++ cs.drop 2 := by rw [show cs.drop 2 = (cs.drop 1).drop 1 from by rw [List.drop_drop], List.take_append_drop]
    have g2 : cs.drop 2 = (cs.drop 2).take 1 ++ cs.drop 3 := by rw [show cs.drop 3 = (cs.drop 2).drop 1 from by rw [List.drop_drop], List.take_append_drop]
    have g3 : cs.drop 3 = (cs.drop 3).take 1 ++ cs.drop 4 := by rw [show cs.drop 4 = (cs.drop 3).drop 1 from by rw [List.drop_drop], List.take_append_drop]
    have z : cs.drop 4 = [] := List.drop_eq_nil_of_le (by omega)
    rw [z, List.append_nil] at g3
    calc cs = cs.drop 0 := rfl
      _ = (cs.drop 0).take 1 ++ ((cs.drop 1).take 1 ++ ((cs.drop 2).take 1 ++ ((cs.drop 3).take 1))) := by rw [← g3, ← g2, ← g1]; exact g0
  refine ⟨⟨x0, x1, x2, x3⟩, ?_, o0, o1, o2, o3⟩
  rw [e]
  exact ⟨_, _, rfl, K0, ⟨_, _, rfl, K1, ⟨_, _, rfl, K2, K3⟩⟩⟩
end Go.Proofs.Ytafeakcajhhkoaa.Gen
namespace Go.Proofs.Ytafeakcajhhkoaa.Gen
open Go.RowKit Go.Proofs.YtafeakcajhhkoaaW.PrintWords Go.Proofs.YtafeakcajhhkoaaW.PrintLast Go.Proofs.YtafeakcajhhkoaaW.PrintMore Go.Proofs.Ytafeakcajhhkoaa.Prt
set_option linter.unusedVariables false
set_option linter.unusedSimpArgs false
theorem opens_events : Opens Try.prog 22 (Kd.slice 40 k40) (fun xs => ∀ x ∈ xs, x.f0.size ≤ maxLen ∧ x.f1.size ≤ maxLen ∧ (∀ z ∈ x.f2, z.size ≤ maxLen) ∧ (∀ z ∈ x.f3, z.f0.size ≤ maxLen ∧ (Lit.int .i64 z.f1).wf = true)) := opens_slice Try.underlying22 (by kernel_rfl) opens_event
end Go.Proofs.Ytafeakcajhhkoaa.Gen
namespace Go.Proofs.Ytafeakcajhhkoaa.Gen
open Go.RowKit Go.Proofs.YtafeakcajhhkoaaW.PrintWords Go.Proofs.YtafeakcajhhkoaaW.PrintLast Go.Proofs.YtafeakcajhhkoaaW.PrintMore Go.Proofs.Ytafeakcajhhkoaa.Prt
set_option linter.unusedVariables false
set_option linter.unusedSimpArgs false
/-- Events that came in. -/
def OkIn (l : List S40) : Prop := ∀ x ∈ l, x.f0.size ≤ maxLen ∧ x.f1.size ≤ maxLen ∧ (∀ z ∈ x.f2, z.size ≤ maxLen) ∧ (∀ z ∈ x.f3, z.f0.size ≤ maxLen ∧ (Lit.int .i64 z.f1).wf = true)
theorem opens_batch : Opens Try.prog 24 k24 (fun x => (Lit.int .i64 x.f0).wf = true ∧ OkIn x.f1) := by
  intro H enc w base spare held fuel cs y h
  obtain ⟨xs, n, _, _, hl, hlen, hf⟩ := DataW.trod_struct Try.underlying24 h
  rw [show Try.prog.cellsOf 24 = 2 from by kernel_rfl] at hl
  have hlen' : xs.length = 2 := hlen
  have h0 := hf 0 _ rfl
  rw [List.getElem?_eq_getElem (l := xs) (i := 0) (by omega)] at h0
  replace h0 : DataW.trod enc Try.prog w base spare held n 3 ((cs.drop 0).take (Try.prog.cellsOf 3)) = some xs[0] := h0
  rw [show Try.prog.cellsOf 3 = 1 from by kernel_rfl] at h0
  obtain ⟨x0, K0, o0⟩ := opens_i64 enc w base spare held n _ _ h0
  have h1 := hf 1 _ rfl
  rw [List.getElem?_eq_getElem (l := xs) (i := 1) (by omega)] at h1
  replace h1 : DataW.trod enc Try.prog w base spare held n 22 ((cs.drop 1).take (Try.prog.cellsOf 22)) = some xs[1] := h1
  rw [show Try.prog.cellsOf 22 = 1 from by kernel_rfl] at h1
  obtain ⟨x1, K1, o1⟩ := opens_events enc w base spare held n _ _ h1
  have e : cs = (cs.drop 0).take 1 ++ ((cs.drop 1).take 1) := by
    have g0 : cs.drop 0 = (cs.drop 0).take 1 ++ cs.drop 1 := by rw [show cs.drop 1 = (cs.drop 0).drop 1 from by rw [List.drop_drop], List.take_append_drop]
    have g1 : cs.drop 1 = (cs.drop 1).take 1 ++ cs.drop 2 := by rw [show cs.drop 2 = (cs.drop 1).drop 1 from by rw [List.drop_drop], List.take_append_drop]
    have z : cs.drop 2 = [] := List.drop_eq_nil_of_le (by omega)
    rw [z, List.append_nil] at g1
    calc cs = cs.drop 0 := rfl
      _ = (cs.drop 0).take 1 ++ ((cs.drop 1).take 1) := by rw [← g1]; exact g0
  refine ⟨⟨x0, x1⟩, ?_, o0, o1⟩
  rw [e]
  exact ⟨_, _, rfl, K0, K1⟩
end Go.Proofs.Ytafeakcajhhkoaa.Gen
namespace Go.Proofs.Ytafeakcajhhkoaa.Prt
open Go.RowKit Go.Proofs.YtafeakcajhhkoaaW.PrintWords Go.Proofs.YtafeakcajhhkoaaW.PrintLast Go.Proofs.YtafeakcajhhkoaaW.PrintMore Go.Proofs.Ytafeakcajhhkoaa.Num Go.Proofs.Ytafeakcajhhkoaa.Nam Go.Proofs.Ytafeakcajhhkoaa.Gen
set_option linter.unusedVariables false
set_option linter.unusedSimpArgs false

theorem fitsBatchMany {l : List S40} (h : OkIn l) : FitsB l := fun x hx => ⟨(h x hx).1, (h x hx).2.1, (h x hx).2.2.1, fun z hz => ((h x hx).2.2.2 z hz).1⟩
theorem batchMany_law (cs : Array Value) (x : S24) (w : World) (y : k24.K w x cs.toList) (hx : (Lit.int .i64 x.f0).wf = true ∧ OkIn x.f1) :
    Calls Try.prog 6 #[.agg cs] w fun e w' => e = .returned (.bool true) ∧ Below w.heap.size w w' := by
  obtain ⟨A, c, e, hc, hC⟩ := k24_open y
  obtain rfl : cs = #[.int .i64 x.f0, .slice A x.f1.length c] := by cases cs; simp_all
  exact registrarlaw10_BatchMany.calls 60 x.f0 A c x.f1 true w hC hc (batchMany_true x.f0 x.f1 (fitsBatchMany hx.2))
end Go.Proofs.Ytafeakcajhhkoaa.Prt

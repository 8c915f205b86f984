/- Functions of the program, told as plain functions, with their walks: written by a program of this claim's out of the translation. The statement BatchParts, of plain functions. Arguments of any shape, opened: what reads as data lies in memory as a list, a struct, a text .. Arguments that are events, opened. Arguments that are rows of events, opened. Arguments that are batches, opened. The statement BatchParts: the walk of the law. -/
import Derived.ChangeArms
import Derived.OpenShut
import Derived.DataReads
import Derived.Deep.Slices
import Derived.Test.YtafeakcajhhkoaaYBatchParts1
import Derived.Test.YtafeakcajhhkoaaYBatchParts2
import Derived.Test.YtafeakcajhhkoaaYBatchParts3
import Derived.Test.YtafeakcajhhkoaaYBatchParts4
namespace Go.Proofs.Ytafeakcajhhkoaa.Prt
open Go.RowKit Go.Proofs.YtafeakcajhhkoaaW.PrintWords Go.Proofs.YtafeakcajhhkoaaW.PrintLast Go.Proofs.YtafeakcajhhkoaaW.PrintMore
attribute [local go_sem] max2_int min2_int max_two min_two max_three min_three max_four min_four   -- for this text's walks alone
set_option linter.unusedVariables false
set_option linter.unusedSimpArgs false

mutual
def registrarlaw10_BatchParts.j0 : Nat → Int → Bool → Bool → Int → List (S40) → Option (Bool)
  | 0, _, _, _, _, _ => none
  | k + 1, x1, x5, x24, x323000, x323001 => if x24 = true then (some x5) else ((some (([] : List (S40)) : List (S40))).bind fun y329 => (if 0 ≤ x1 then (if x1 ≤ (x323001.length : Int) then ((some (x323001.take (x1 : Int).toNat : List (S40))).bind fun y332 => (if y329.length + y332.length < 1759218604441 then ((some (y329 ++ y332 : List (S40))).bind fun y337 => (if 0 ≤ (wrap64 (x1 + 1)) then (if (wrap64 (x1 + 1)) ≤ (x323001.length : Int) then ((some (x323001.drop ((wrap64 (x1 + 1)) : Int).toNat : List (S40))).bind fun y340 => (if y337.length + y340.length < 1759218604441 then ((some (y337 ++ y340 : List (S40))).bind fun y345 => (if (y345.length : Int) = 0 then (registrarlaw10_BatchParts.j1 k x5 22 x323000 x323001 x323000 y345) else (registrarlaw10_BatchParts.j1 k x5 0 x323000 x323001 x323000 y345))) else (none))) else (none)) else (none))) else (none))) else (none)) else (none)))
def registrarlaw10_BatchParts.j1 : Nat → Bool → Int → Int → List (S40) → Int → List (S40) → Option (Bool)
  | 0, _, _, _, _, _, _ => none
  | k + 1, x5, x7, x323000, x323001, x349000, x349001 => if x5 = true then ((batch_May.f x349000 x349001).bind fun t349 => (if t349 = x7 then ((batch_May.f (-1) x323001).bind fun t350 => (if t350 = 1 then ((batch_May.f 1048576 x323001).bind fun t351 => (some (t351 == 1))) else (some false))) else (some false))) else (some false)
end
def registrarlaw10_BatchParts.f (k : Nat) (a0_0 : Int) (l0_1 : List (S40)) (a1 : Int) : Option (Bool) := (registrarlaw10_shown.f).bind fun t323 => ((registrarlaw10_few.f k a0_0 l0_1).bind fun bt324 => ((batch_May.f bt324.1 bt324.2).bind fun t328 => (if t328 = 0 then (if a1 < 0 then (registrarlaw10_BatchParts.j0 k a1 t323 true bt324.1 bt324.2) else (registrarlaw10_BatchParts.j0 k a1 t323 (decide (a1 ≥ (bt324.2.length : Int))) bt324.1 bt324.2)) else (registrarlaw10_BatchParts.j0 k a1 t323 true bt324.1 bt324.2))))
def registrarlaw10_BatchParts.T5 : Bool × List (List Nat × List Nat) := (true, [([], []), ([0], [0]), ([], []), ([], []), ([3], [3]), ([], []), ([4, 5], [4, 5]), ([2, 6], [2, 6]), ([], []), ([8], [8]), ([], []), ([10], [10]), ([9, 11], [9, 11]), ([7, 12, 7], [7, 12]), ([1, 13], [1, 13]), ([], []), ([15, 14, 13, 0, 1, 2, 3, 4, 5, 6, 7, 8, 9, 10, 11, 12, 13, 14, 15], [14, 15])])
def registrarlaw10_BatchParts.B5 : List Nat := [0, 1, 0, 0, 8, 0, 56, 124, 0, 256, 0, 1024, 3840, 8188, 16383, 0, 65535]
theorem registrarlaw10_BatchParts.tab5 : rtab .any (opsOf Try.f5 5) = registrarlaw10_BatchParts.T5 := by kernel_rfl
theorem registrarlaw10_BatchParts.bits5 : waitsOk registrarlaw10_BatchParts.T5.2 registrarlaw10_BatchParts.B5 = true := by kernel_rfl
set_option maxHeartbeats 8000000 in
set_option maxRecDepth 100000 in
theorem registrarlaw10_BatchParts.calls (k : Nat) (a0_0 : Int) (A0_1 : Option Addr) (c0_1 : Nat) (l0_1 : List (S40)) (a1 : Int) (r : Bool) (w : World) (hr0_1 : Kd.C k40 w A0_1 l0_1.length l0_1) (hc0_1 : l0_1.length ≤ c0_1) (h : registrarlaw10_BatchParts.f k a0_0 l0_1 a1 = some r) :
    Calls Try.prog 5 #[.agg #[.int .i64 a0_0, .slice A0_1 l0_1.length c0_1], .int .i64 a1] w fun e w' => e = .returned (.bool r) ∧ Below w.heap.size w w' := by
  have hu24 := Try.underlying24
  have HR0_1 := Aside0.mk hr0_1
  have HC0_1 := Aside0.mk hc0_1
  clear hr0_1 hc0_1
  have HB := Aside0.mk (Below.refl w.heap.size w)
  have H : ((registrarlaw10_shown.f).bind fun t323 => ((registrarlaw10_few.f k a0_0 l0_1).bind fun bt324 => ((batch_May.f bt324.1 bt324.2).bind fun t328 => (if t328 = 0 then (if a1 < 0 then (registrarlaw10_BatchParts.j0 k a1 t323 true bt324.1 bt324.2) else (registrarlaw10_BatchParts.j0 k a1 t323 (decide (a1 ≥ (bt324.2.length : Int))) bt324.1 bt324.2)) else (registrarlaw10_BatchParts.j0 k a1 t323 true bt324.1 bt324.2))))) = some r := h
  clear h
  replace H := Option.bind_eq_some_iff.mp H
  obtain ⟨t323, A30, H⟩ := H
  replace H : ((registrarlaw10_few.f k a0_0 l0_1).bind fun bt324 => ((batch_May.f bt324.1 bt324.2).bind fun t328 => (if t328 = 0 then (if a1 < 0 then (registrarlaw10_BatchParts.j0 k a1 t323 true bt324.1 bt324.2) else (registrarlaw10_BatchParts.j0 k a1 t323 (decide (a1 ≥ (bt324.2.length : Int))) bt324.1 bt324.2)) else (registrarlaw10_BatchParts.j0 k a1 t323 true bt324.1 bt324.2)))) = some r := H
  have A3 := Aside0.mk A30
  clear A30
  replace H := Option.bind_eq_some_iff.mp H
  obtain ⟨⟨t324, t325⟩, A40, H⟩ := H
  replace H : ((batch_May.f t324 t325).bind fun t328 => (if t328 = 0 then (if a1 < 0 then (registrarlaw10_BatchParts.j0 k a1 t323 true t324 t325) else (registrarlaw10_BatchParts.j0 k a1 t323 (decide (a1 ≥ (t325.length : Int))) t324 t325)) else (registrarlaw10_BatchParts.j0 k a1 t323 true t324 t325))) = some r := H
  have A4 := Aside0.mk A40
  clear A40
  have HC5 := Aside0.mk H
  clear H
  go_enter Try.func5, Try.ntmps5
  go_upto_region 3 with (first | ((with_reducible refine gate_dst (N := 2) rfl ?_); (try (refine gate_guard (by rfl) ?_; dsimp only)); refine box_event ?hg (N := 2) ?hd (cs := #[.int .i64 a0_0, .slice A0_1 l0_1.length c0_1]) (t := 24) ?hr ?_; (case hd => rfl); (case hg => rfl); (case hr => first | (go_simp; done) | (go_simp; rfl)); intro gb322 hg w6 hbox hb; have n0_ := Aside0.mk (below_step (by repeat (first | (with_reducible first | exact HB.out | apply below_alloc | apply pw_below_drewN | apply below_drew1) | exact HB.out)) hb); have n1_ := Aside0.mk (hbox); have n2_ := Aside0.mk ((by rw [hg]; exact (below_size (by repeat (first | (with_reducible first | exact HB.out | apply below_alloc | apply pw_below_drewN | apply below_drew1) | exact HB.out))) : w.heap.size ≤ gb322)); have n3_ := Aside0.mk ((by rw [hg]; exact (below_size (by repeat (first | (with_reducible first | exact HB.out | apply below_alloc | apply pw_below_drewN | apply below_drew1) | exact HB.out))) : w.heap.size ≤ gb322)); clear HB; have HB := n0_; have BK322 := n1_; have GW322 := n2_; have GE322 := n3_; clear n0_ n1_ n2_ n3_; clear hb hbox hg) | ((with_reducible refine gate_callee (f := 9) rfl ?_); refine goesL_ (some 8) rfl rfl Try.func9 (by kernel_rfl) rfl #[] rfl (by (try simp only [List.map_toArray, List.map_cons, List.map_nil]); first | done | rfl | (simp only [List.length_drop, List.length_take]; rfl)) ?_; (with_reducible refine (registrarlaw10_shown.calls  t323 _ A3.out).mono ?_); rintro e w7 ⟨rfl, hb⟩; refine ⟨_, rfl, ?_⟩; have n0_ := Aside0.mk (blk_below (g := gb322) (o := .cells #[.int .i64 a0_0, .slice A0_1 l0_1.length c0_1] 24 (0, 0)) (by (with_reducible repeat (first | refine blk_drewN ?_ _ | refine blk_drew ?_ | refine blk_alloc ?_ _)); exact BK322.out) hb); have n1_ := Aside0.mk (below_step (by repeat (first | (with_reducible first | exact HB.out | apply below_alloc | apply pw_below_drewN | apply below_drew1 | refine below_set ?_ GE322.out) | exact HB.out)) hb); clear BK322; clear HB; have BK322 := n0_; have HB := n1_; clear n0_ n1_; (try clear hb); (try clear hb2); (try clear hk); (try clear hi); have hcz8_0 : w7.cell? ⟨gb322, 0, none⟩ = some (.int .i64 a0_0) := (blk_cell BK322.out 0).trans rfl; have hcz8_1 : w7.cell? ⟨gb322, 1, none⟩ = some (.slice A0_1 l0_1.length c0_1) := (blk_cell BK322.out 1).trans rfl; have hfz8_0 := blk_frozen BK322.out 0; have hfz8_1 := blk_frozen BK322.out 1) | ((with_reducible refine gate_callee (f := 10) rfl ?_); refine goesL_ (some 10) rfl rfl Try.func10 (by kernel_rfl) rfl #[.agg #[.int .i64 a0_0, .slice A0_1 l0_1.length c0_1]] rfl (by (try simp only [List.map_toArray, List.map_cons, List.map_nil]); first | done | rfl | (simp only [List.length_drop, List.length_take]; rfl)) ?_; (with_reducible refine (registrarlaw10_few.calls k a0_0 (fun k_ => k_ < w.heap.size) _ _ l0_1 t324 t325 _ ?side1 A4.out).mono ?_); (case side1 => exact Kd.V_mk HC0_1.out (Kd.F_below (Kd.C_F k40_heap HR0_1.out) (by repeat (first | (with_reducible first | exact HB.out | apply below_alloc | apply pw_below_drewN | apply below_drew1 | refine below_set ?_ GE322.out) | exact HB.out)))); rintro e w9 ⟨v326, rfl, ho0, hb⟩; refine ⟨_, rfl, ?_⟩; have n0_ := Aside0.mk (Kd.N_lower (Kd.N_mono (ok' := fun k_ => k_ ≠ gb322) ho0 (fun k_ hk_ => Or.elim hk_ (fun hs_ => fun e_ => Nat.not_le.2 hs_ (by rw [e_]; exact GW322.out)) (fun hn_ => (Kd.freshB (g := gb322) (o := .cells #[.int .i64 a0_0, .slice A0_1 l0_1.length c0_1] 24 (0, 0)) (by (with_reducible repeat (first | refine blk_drewN ?_ _ | refine blk_drew ?_ | refine blk_alloc ?_ _)); exact BK322.out) k_ hn_)))) (below_size (by repeat (first | (with_reducible first | exact HB.out | apply below_alloc | apply pw_below_drewN | apply below_drew1 | refine below_set ?_ GE322.out) | exact HB.out)))); have n1_ := Aside0.mk (blk_below (g := gb322) (o := .cells #[.int .i64 a0_0, .slice A0_1 l0_1.length c0_1] 24 (0, 0)) (by (with_reducible repeat (first | refine blk_drewN ?_ _ | refine blk_drew ?_ | refine blk_alloc ?_ _)); exact BK322.out) hb); have n2_ := Aside0.mk (below_step (by repeat (first | (with_reducible first | exact HB.out | apply below_alloc | apply pw_below_drewN | apply below_drew1 | refine below_set ?_ GE322.out) | exact HB.out)) hb); clear BK322; clear HB; have HO327 := n0_; have BK322 := n1_; have HB := n2_; clear n0_ n1_ n2_; (try clear hb); (try clear hb2); (try clear hk); (try clear hi); (try clear ho0); have hcz10_0 : w9.cell? ⟨gb322, 0, none⟩ = some (.int .i64 a0_0) := (blk_cell BK322.out 0).trans rfl; have hcz10_1 : w9.cell? ⟨gb322, 1, none⟩ = some (.slice A0_1 l0_1.length c0_1) := (blk_cell BK322.out 1).trans rfl; have hfz10_0 := blk_frozen BK322.out 0; have hfz10_1 := blk_frozen BK322.out 1; obtain ⟨Ao11, co11, eo11⟩ := Kd.N_slice HO327.out; subst eo11))
  (try simp only [Act.put, List.setIfInBounds_toArray, List.set_cons_zero, List.set_cons_succ])
  go_cut [24] (fun v24 wc => ∃ (kq : Nat) (x24_4 : Bool), v24 = .bool x24_4 ∧ Aside0 (registrarlaw10_BatchParts.j0 kq a1 t323 x24_4 t324 t325 = some r) ∧ Aside0 (kq ≤ k) ∧ Aside0 (Kd.N k40 40 wc w.heap.size (fun k_ => k_ ≠ gb322) (.slice Ao11 t325.length co11) t325) ∧ Aside0 (wc.heap[gb322]? = some (.cells #[.int .i64 t324, (.slice Ao11 t325.length co11)] 24 (0, 0))) ∧ Aside0 (Below w.heap.size w wc))
  case first =>
    have H := HC5.out
    clear HC5
    replace H := Option.bind_eq_some_iff.mp H
    obtain ⟨t328, A120, H⟩ := H
    replace H : (if t328 = 0 then (if a1 < 0 then (registrarlaw10_BatchParts.j0 k a1 t323 true t324 t325) else (registrarlaw10_BatchParts.j0 k a1 t323 (decide (a1 ≥ (t325.length : Int))) t324 t325)) else (registrarlaw10_BatchParts.j0 k a1 t323 true t324 t325)) = some r := H
    have A12 := Aside0.mk A120
    clear A120
    by_cases c13 : t328 = 0
    · rw [if_pos c13] at H
      have c13b0 : (t328 == 0) = true := beq_iff_eq.mpr c13
      have c13b1 : (t328 != 0) = false := bne_eq_false_iff_eq.mpr c13
      clear c13
      (first | rw [c13b0] | (simp only [i64_w, i32_w]; rw [c13b0]) | skip)
      by_cases c14 : a1 < 0
      · rw [if_pos c14] at H
        have c14b0 : decide (a1 < 0) = true := decide_eq_true c14
        clear c14
        have H' := Aside0.mk H
        clear H
        have hcz15_0 : w9.cell? ⟨gb322, 0, none⟩ = some (.int .i64 a0_0) := (blk_cell BK322.out 0).trans rfl
        have hcz15_1 : w9.cell? ⟨gb322, 1, none⟩ = some (.slice A0_1 l0_1.length c0_1) := (blk_cell BK322.out 1).trans rfl
        have hfz15_0 := blk_frozen BK322.out 0
        have hfz15_1 := blk_frozen BK322.out 1
        go_wp2_with (first | ((with_reducible refine gate_callee (f := 13) rfl ?_); refine goesL_ (some 12) rfl rfl Try.func13 (by kernel_rfl) rfl #[.agg #[.int .i64 t324, .slice Ao11 t325.length co11]] rfl (by (try simp only [List.map_toArray, List.map_cons, List.map_nil]); first | done | rfl | (simp only [List.length_drop, List.length_take]; rfl)) ?_; (with_reducible refine (batch_May.calls t324 _ _ t325 t328 _ ?side1 ?side2 A12.out).mono ?_); (case side1 => refine (Kd.N_reads' (e := 40) (base := w.heap.size) (ok := fun k_ => k_ ≠ gb322) (n := t325.length) (c := co11) ?_).2.2; exact (by (with_reducible repeat (first | apply Kd.N_alloc | apply Kd.N_drewN | apply Kd.N_drew)); exact (Kd.N_mono (Kd.N_far (p := ⟨gb322, 1, none⟩) (Kd.N_far (p := ⟨gb322, 0, none⟩) (Kd.N_mono HO327.out (fun k_ hk => (⟨hk, hk⟩ : _ ∧ k_ ≠ gb322))) (fun _ hk => hk.2) (.int .i64 t324)) (fun _ hk => hk.2) (.slice Ao11 t325.length co11)) (fun _ h_ => h_.1)))); (case side2 => exact (Kd.N_reads' HO327.out).2.1); rintro e w16 ⟨rfl, hb⟩; refine ⟨_, rfl, ?_⟩; have n0_ := Aside0.mk (Kd.N_below (by (with_reducible repeat (first | apply Kd.N_alloc | apply Kd.N_drewN | apply Kd.N_drew)); exact (Kd.N_mono (Kd.N_far (p := ⟨gb322, 1, none⟩) (Kd.N_far (p := ⟨gb322, 0, none⟩) (Kd.N_mono HO327.out (fun k_ hk => (⟨hk, hk⟩ : _ ∧ k_ ≠ gb322))) (fun _ hk => hk.2) (.int .i64 t324)) (fun _ hk => hk.2) (.slice Ao11 t325.length co11)) (fun _ h_ => h_.1))) hb); have n1_ := Aside0.mk (blk_below (g := gb322) (o := .cells #[.int .i64 t324, .slice Ao11 t325.length co11] 24 (0, 0)) (by (with_reducible repeat (first | refine blk_drewN ?_ _ | refine blk_drew ?_ | refine blk_alloc ?_ _)); refine blk_put (cs := #[.int .i64 t324, .slice A0_1 l0_1.length c0_1]) ?_ 1 _ rfl; (with_reducible repeat (first | refine blk_drewN ?_ _ | refine blk_drew ?_ | refine blk_alloc ?_ _)); refine blk_put (cs := #[.int .i64 a0_0, .slice A0_1 l0_1.length c0_1]) ?_ 0 _ rfl; (with_reducible repeat (first | refine blk_drewN ?_ _ | refine blk_drew ?_ | refine blk_alloc ?_ _)); exact BK322.out) hb); have n2_ := Aside0.mk (below_step (by repeat (first | (with_reducible first | exact HB.out | apply below_alloc | apply pw_below_drewN | apply below_drew1 | refine below_set ?_ GE322.out) | exact HB.out)) hb); clear HO327; clear BK322; clear HB; have HO327 := n0_; have BK322 := n1_; have HB := n2_; clear n0_ n1_ n2_; (try clear hb); (try clear hb2); (try clear hk); (try clear hi)))
        go_meet
        case rel => exact ⟨_, (true), (by first | rfl | (simp; done) | (simp [*]; done)), H', ⟨by first | omega | exact Nat.le_refl _⟩, ⟨by (with_reducible repeat (first | apply Kd.N_alloc | apply Kd.N_drewN | apply Kd.N_drew)); exact HO327.out⟩, ⟨by (with_reducible repeat (first | refine blk_drewN ?_ _ | refine blk_drew ?_ | refine blk_alloc ?_ _)); exact BK322.out⟩, ⟨by repeat (first | (with_reducible first | exact HB.out | apply below_alloc | apply pw_below_drewN | apply below_drew1 | refine below_set ?_ GE322.out) | exact HB.out)⟩⟩
      · rw [if_neg c14] at H
        have c14b0 : decide (a1 < 0) = false := decide_eq_false c14
        clear c14
        have H' := Aside0.mk H
        clear H
        have hcz17_0 : w9.cell? ⟨gb322, 0, none⟩ = some (.int .i64 a0_0) := (blk_cell BK322.out 0).trans rfl
        have hcz17_1 : w9.cell? ⟨gb322, 1, none⟩ = some (.slice A0_1 l0_1.length c0_1) := (blk_cell BK322.out 1).trans rfl
        have hfz17_0 := blk_frozen BK322.out 0
        have hfz17_1 := blk_frozen BK322.out 1
        go_wp2_with (first | ((with_reducible refine gate_callee (f := 13) rfl ?_); refine goesL_ (some 12) rfl rfl Try.func13 (by kernel_rfl) rfl #[.agg #[.int .i64 t324, .slice Ao11 t325.length co11]] rfl (by (try simp only [List.map_toArray, List.map_cons, List.map_nil]); first | done | rfl | (simp only [List.length_drop, List.length_take]; rfl)) ?_; (with_reducible refine (batch_May.calls t324 _ _ t325 t328 _ ?side1 ?side2 A12.out).mono ?_); (case side1 => refine (Kd.N_reads' (e := 40) (base := w.heap.size) (ok := fun k_ => k_ ≠ gb322) (n := t325.length) (c := co11) ?_).2.2; exact (by (with_reducible repeat (first | apply Kd.N_alloc | apply Kd.N_drewN | apply Kd.N_drew)); exact (Kd.N_mono (Kd.N_far (p := ⟨gb322, 1, none⟩) (Kd.N_far (p := ⟨gb322, 0, none⟩) (Kd.N_mono HO327.out (fun k_ hk => (⟨hk, hk⟩ : _ ∧ k_ ≠ gb322))) (fun _ hk => hk.2) (.int .i64 t324)) (fun _ hk => hk.2) (.slice Ao11 t325.length co11)) (fun _ h_ => h_.1)))); (case side2 => exact (Kd.N_reads' HO327.out).2.1); rintro e w18 ⟨rfl, hb⟩; refine ⟨_, rfl, ?_⟩; have n0_ := Aside0.mk (Kd.N_below (by (with_reducible repeat (first | apply Kd.N_alloc | apply Kd.N_drewN | apply Kd.N_drew)); exact (Kd.N_mono (Kd.N_far (p := ⟨gb322, 1, none⟩) (Kd.N_far (p := ⟨gb322, 0, none⟩) (Kd.N_mono HO327.out (fun k_ hk => (⟨hk, hk⟩ : _ ∧ k_ ≠ gb322))) (fun _ hk => hk.2) (.int .i64 t324)) (fun _ hk => hk.2) (.slice Ao11 t325.length co11)) (fun _ h_ => h_.1))) hb); have n1_ := Aside0.mk (blk_below (g := gb322) (o := .cells #[.int .i64 t324, .slice Ao11 t325.length co11] 24 (0, 0)) (by (with_reducible repeat (first | refine blk_drewN ?_ _ | refine blk_drew ?_ | refine blk_alloc ?_ _)); refine blk_put (cs := #[.int .i64 t324, .slice A0_1 l0_1.length c0_1]) ?_ 1 _ rfl; (with_reducible repeat (first | refine blk_drewN ?_ _ | refine blk_drew ?_ | refine blk_alloc ?_ _)); refine blk_put (cs := #[.int .i64 a0_0, .slice A0_1 l0_1.length c0_1]) ?_ 0 _ rfl; (with_reducible repeat (first | refine blk_drewN ?_ _ | refine blk_drew ?_ | refine blk_alloc ?_ _)); exact BK322.out) hb); have n2_ := Aside0.mk (below_step (by repeat (first | (with_reducible first | exact HB.out | apply below_alloc | apply pw_below_drewN | apply below_drew1 | refine below_set ?_ GE322.out) | exact HB.out)) hb); clear HO327; clear BK322; clear HB; have HO327 := n0_; have BK322 := n1_; have HB := n2_; clear n0_ n1_ n2_; (try clear hb); (try clear hb2); (try clear hk); (try clear hi); have hcz19_0 : w18.cell? ⟨gb322, 0, none⟩ = some (.int .i64 t324) := (blk_cell BK322.out 0).trans rfl; have hcz19_1 : w18.cell? ⟨gb322, 1, none⟩ = some (.slice Ao11 t325.length co11) := (blk_cell BK322.out 1).trans rfl; have hfz19_0 := blk_frozen BK322.out 0; have hfz19_1 := blk_frozen BK322.out 1))
        go_meet
        case rel => exact ⟨_, (decide (a1 ≥ (t325.length : Int))), (by first | rfl | (simp; done) | (simp [*]; done)), H', ⟨by first | omega | exact Nat.le_refl _⟩, ⟨by (with_reducible repeat (first | apply Kd.N_alloc | apply Kd.N_drewN | apply Kd.N_drew)); exact HO327.out⟩, ⟨by (with_reducible repeat (first | refine blk_drewN ?_ _ | refine blk_drew ?_ | refine blk_alloc ?_ _)); exact BK322.out⟩, ⟨by repeat (first | (with_reducible first | exact HB.out | apply below_alloc | apply pw_below_drewN | apply below_drew1 | refine below_set ?_ GE322.out) | exact HB.out)⟩⟩
    · rw [if_neg c13] at H
      have c13b0 : (t328 == 0) = false := beq_eq_false_iff_ne.mpr c13
      have c13b1 : (t328 != 0) = true := bne_iff_ne.mpr c13
      (first | rw [c13b0] | (simp only [i64_w, i32_w]; rw [c13b0]) | skip)
      have H' := Aside0.mk H
      clear H
      have hcz20_0 : w9.cell? ⟨gb322, 0, none⟩ = some (.int .i64 a0_0) := (blk_cell BK322.out 0).trans rfl
      have hcz20_1 : w9.cell? ⟨gb322, 1, none⟩ = some (.slice A0_1 l0_1.length c0_1) := (blk_cell BK322.out 1).trans rfl
      have hfz20_0 := blk_frozen BK322.out 0
      have hfz20_1 := blk_frozen BK322.out 1
      go_wp2_with (first | ((with_reducible refine gate_callee (f := 13) rfl ?_); refine goesL_ (some 12) rfl rfl Try.func13 (by kernel_rfl) rfl #[.agg #[.int .i64 t324, .slice Ao11 t325.length co11]] rfl (by (try simp only [List.map_toArray, List.map_cons, List.map_nil]); first | done | rfl | (simp only [List.length_drop, List.length_take]; rfl)) ?_; (with_reducible refine (batch_May.calls t324 _ _ t325 t328 _ ?side1 ?side2 A12.out).mono ?_); (case side1 => refine (Kd.N_reads' (e := 40) (base := w.heap.size) (ok := fun k_ => k_ ≠ gb322) (n := t325.length) (c := co11) ?_).2.2; exact (by (with_reducible repeat (first | apply Kd.N_alloc | apply Kd.N_drewN | apply Kd.N_drew)); exact (Kd.N_mono (Kd.N_far (p := ⟨gb322, 1, none⟩) (Kd.N_far (p := ⟨gb322, 0, none⟩) (Kd.N_mono HO327.out (fun k_ hk => (⟨hk, hk⟩ : _ ∧ k_ ≠ gb322))) (fun _ hk => hk.2) (.int .i64 t324)) (fun _ hk => hk.2) (.slice Ao11 t325.length co11)) (fun _ h_ => h_.1)))); (case side2 => exact (Kd.N_reads' HO327.out).2.1); rintro e w21 ⟨rfl, hb⟩; refine ⟨_, rfl, ?_⟩; have n0_ := Aside0.mk (Kd.N_below (by (with_reducible repeat (first | apply Kd.N_alloc | apply Kd.N_drewN | apply Kd.N_drew)); exact (Kd.N_mono (Kd.N_far (p := ⟨gb322, 1, none⟩) (Kd.N_far (p := ⟨gb322, 0, none⟩) (Kd.N_mono HO327.out (fun k_ hk => (⟨hk, hk⟩ : _ ∧ k_ ≠ gb322))) (fun _ hk => hk.2) (.int .i64 t324)) (fun _ hk => hk.2) (.slice Ao11 t325.length co11)) (fun _ h_ => h_.1))) hb); have n1_ := Aside0.mk (blk_below (g := gb322) (o := .cells #[.int .i64 t324, .slice Ao11 t325.length co11] 24 (0, 0)) (by (with_reducible repeat (first | refine blk_drewN ?_ _ | refine blk_drew ?_ | refine blk_alloc ?_ _)); refine blk_put (cs := #[.int .i64 t324, .slice A0_1 l0_1.length c0_1]) ?_ 1 _ rfl; (with_reducible repeat (first | refine blk_drewN ?_ _ | refine blk_drew ?_ | refine blk_alloc ?_ _)); refine blk_put (cs := #[.int .i64 a0_0, .slice A0_1 l0_1.length c0_1]) ?_ 0 _ rfl; (with_reducible repeat (first | refine blk_drewN ?_ _ | refine blk_drew ?_ | refine blk_alloc ?_ _)); exact BK322.out) hb); have n2_ := Aside0.mk (below_step (by repeat (first | (with_reducible first | exact HB.out | apply below_alloc | apply pw_below_drewN | apply below_drew1 | refine below_set ?_ GE322.out) | exact HB.out)) hb); clear HO327; clear BK322; clear HB; have HO327 := n0_; have BK322 := n1_; have HB := n2_; clear n0_ n1_ n2_; (try clear hb); (try clear hb2); (try clear hk); (try clear hi)))
      go_meet
      case rel => exact ⟨_, (true), (by first | rfl | (simp; done) | (simp [*]; done)), H', ⟨by first | omega | exact Nat.le_refl _⟩, ⟨by (with_reducible repeat (first | apply Kd.N_alloc | apply Kd.N_drewN | apply Kd.N_drew)); exact HO327.out⟩, ⟨by (with_reducible repeat (first | refine blk_drewN ?_ _ | refine blk_drew ?_ | refine blk_alloc ?_ _)); exact BK322.out⟩, ⟨by repeat (first | (with_reducible first | exact HB.out | apply below_alloc | apply pw_below_drewN | apply below_drew1 | refine below_set ?_ GE322.out) | exact HB.out)⟩⟩
  case rest =>
    clear HC5
    try clear c1
    try clear p2
    try clear c5
    try clear c9
    try clear c10
    try clear c13
    try clear c13b0
    try clear c13b1
    try clear c14
    try clear c14b0
    try clear hcz10_0
    try clear hcz10_1
    try clear hcz15_0
    try clear hcz15_1
    try clear hcz17_0
    try clear hcz17_1
    try clear hcz19_0
    try clear hcz19_1
    try clear hcz20_0
    try clear hcz20_1
    try clear hcz8_0
    try clear hcz8_1
    try clear hfz10_0
    try clear hfz10_1
    try clear hfz15_0
    try clear hfz15_1
    try clear hfz17_0
    try clear hfz17_1
    try clear hfz19_0
    try clear hfz19_1
    try clear hfz20_0
    try clear hfz20_1
    try clear hfz8_0
    try clear hfz8_1
    obtain ⟨kq, x24_4, rfl, HA, HJ4, HO_323001, BK322, HB⟩ := hcut
    cases kq with
    | zero => exact absurd HA.out (by simp [registrarlaw10_BatchParts.j0])
    | succ kj4 =>
      have H := HA.out
      clear HA
      simp only [registrarlaw10_BatchParts.j0] at H
      by_cases c22 : x24_4 = true
      · subst c22
        have H1 : (some t323) = some r := by rw [if_pos rfl] at H; exact H
        clear H
        have H := H1
        clear H1
        obtain rfl := Option.some.inj H
        go_wp2
        go_ret
        exact ⟨by first | rfl | (simp [errW_none, errW_some] <;> rfl) | (simp [*, errW_none, errW_some] <;> rfl), by repeat (first | (with_reducible first | exact HB.out | apply below_alloc | apply pw_below_drewN | apply below_drew1 | refine below_set ?_ GE322.out) | exact HB.out)⟩
      · replace c22 := Bool.eq_false_iff.mpr c22
        subst c22
        have H1 : ((some (([] : List (S40)) : List (S40))).bind fun y329 => (if 0 ≤ a1 then (if a1 ≤ (t325.length : Int) then ((some (t325.take (a1 : Int).toNat : List (S40))).bind fun y332 => (if y329.length + y332.length < 1759218604441 then ((some (y329 ++ y332 : List (S40))).bind fun y337 => (if 0 ≤ (wrap64 (a1 + 1)) then (if (wrap64 (a1 + 1)) ≤ (t325.length : Int) then ((some (t325.drop ((wrap64 (a1 + 1)) : Int).toNat : List (S40))).bind fun y340 => (if y337.length + y340.length < 1759218604441 then ((some (y337 ++ y340 : List (S40))).bind fun y345 => (if (y345.length : Int) = 0 then (registrarlaw10_BatchParts.j1 kj4 t323 22 t324 t325 t324 y345) else (registrarlaw10_BatchParts.j1 kj4 t323 0 t324 t325 t324 y345))) else (none))) else (none)) else (none))) else (none))) else (none)) else (none))) = some r := by rw [if_neg (show ¬ (false = true) by decide)] at H; exact H
        clear H
        have H := H1
        clear H1
        obtain ⟨y329, hy329⟩ : ∃ y_ : List (S40), y_ = (([] : List (S40))) := ⟨_, rfl⟩
        replace H : (if 0 ≤ a1 then (if a1 ≤ (t325.length : Int) then ((some (t325.take (a1 : Int).toNat : List (S40))).bind fun y332 => (if y329.length + y332.length < 1759218604441 then ((some (y329 ++ y332 : List (S40))).bind fun y337 => (if 0 ≤ (wrap64 (a1 + 1)) then (if (wrap64 (a1 + 1)) ≤ (t325.length : Int) then ((some (t325.drop ((wrap64 (a1 + 1)) : Int).toNat : List (S40))).bind fun y340 => (if y337.length + y340.length < 1759218604441 then ((some (y337 ++ y340 : List (S40))).bind fun y345 => (if (y345.length : Int) = 0 then (registrarlaw10_BatchParts.j1 kj4 t323 22 t324 t325 t324 y345) else (registrarlaw10_BatchParts.j1 kj4 t323 0 t324 t325 t324 y345))) else (none))) else (none)) else (none))) else (none))) else (none)) else (none)) = some r := by first | (rw [hy329]; with_reducible exact H) | (have H2_ := (Option.bind_some _ _).symm.trans H; rw [hy329]; with_reducible exact H2_) | (have H2_ := (Option.bind_some _ _).symm.trans H; with_reducible exact H2_) | with_reducible exact H | (rw [hy329]; exact H) | exact H
        have Ny329 := Aside0.mk hy329
        clear hy329
        by_cases c23 : 0 ≤ a1
        · rw [if_pos c23] at H
          have c23b0 := eq_true c23
          have c23b1 : decide (0 ≤ a1) = true := decide_eq_true c23
          clear c23
          by_cases c24 : a1 ≤ (t325.length : Int)
          · rw [if_pos c24] at H
            have c24b0 := eq_true c24
            have c24b1 : decide (a1 ≤ (t325.length : Int)) = true := decide_eq_true c24
            clear c24
            obtain ⟨y332, hy332⟩ : ∃ y_ : List (S40), y_ = (t325.take (a1 : Int).toNat) := ⟨_, rfl⟩
            replace H : (if y329.length + y332.length < 1759218604441 then ((some (y329 ++ y332 : List (S40))).bind fun y337 => (if 0 ≤ (wrap64 (a1 + 1)) then (if (wrap64 (a1 + 1)) ≤ (t325.length : Int) then ((some (t325.drop ((wrap64 (a1 + 1)) : Int).toNat : List (S40))).bind fun y340 => (if y337.length + y340.length < 1759218604441 then ((some (y337 ++ y340 : List (S40))).bind fun y345 => (if (y345.length : Int) = 0 then (registrarlaw10_BatchParts.j1 kj4 t323 22 t324 t325 t324 y345) else (registrarlaw10_BatchParts.j1 kj4 t323 0 t324 t325 t324 y345))) else (none))) else (none)) else (none))) else (none)) = some r := by first | (rw [hy332]; with_reducible exact H) | (have H2_ := (Option.bind_some _ _).symm.trans H; rw [hy332]; with_reducible exact H2_) | (have H2_ := (Option.bind_some _ _).symm.trans H; with_reducible exact H2_) | with_reducible exact H | (rw [hy332]; exact H) | exact H
            have Ny332 := Aside0.mk hy332
            clear hy332
            by_cases c25 : y329.length + y332.length < 1759218604441
            · rw [if_pos c25] at H
              have LMc25 := Aside0.mk c25
              clear c25
              obtain ⟨y337, hy337⟩ : ∃ y_ : List (S40), y_ = (y329 ++ y332) := ⟨_, rfl⟩
              replace H : (if 0 ≤ (wrap64 (a1 + 1)) then (if (wrap64 (a1 + 1)) ≤ (t325.length : Int) then ((some (t325.drop ((wrap64 (a1 + 1)) : Int).toNat : List (S40))).bind fun y340 => (if y337.length + y340.length < 1759218604441 then ((some (y337 ++ y340 : List (S40))).bind fun y345 => (if (y345.length : Int) = 0 then (registrarlaw10_BatchParts.j1 kj4 t323 22 t324 t325 t324 y345) else (registrarlaw10_BatchParts.j1 kj4 t323 0 t324 t325 t324 y345))) else (none))) else (none)) else (none)) = some r := by first | (rw [hy337]; with_reducible exact H) | (have H2_ := (Option.bind_some _ _).symm.trans H; rw [hy337]; with_reducible exact H2_) | (have H2_ := (Option.bind_some _ _).symm.trans H; with_reducible exact H2_) | with_reducible exact H | (rw [hy337]; exact H) | exact H
              have Ny337 := Aside0.mk hy337
              clear hy337
              obtain ⟨ji26, hji26⟩ : ∃ j_ : Int, (wrap64 (a1 + 1)) = j_ := ⟨_, rfl⟩
              replace H : (if 0 ≤ (ji26) then (if (ji26) ≤ (t325.length : Int) then ((some (t325.drop ((ji26) : Int).toNat : List (S40))).bind fun y340 => (if y337.length + y340.length < 1759218604441 then ((some (y337 ++ y340 : List (S40))).bind fun y345 => (if (y345.length : Int) = 0 then (registrarlaw10_BatchParts.j1 kj4 t323 22 t324 t325 t324 y345) else (registrarlaw10_BatchParts.j1 kj4 t323 0 t324 t325 t324 y345))) else (none))) else (none)) else (none)) = some r := by first | (rw [hji26] at H; exact H) | (simp only [hji26] at H ⊢; exact H)
              have hji26w : (IntKind.i64.wrap (a1 + 1)) = ji26 := (i64_w _).trans hji26
              by_cases c27 : 0 ≤ (ji26)
              · rw [if_pos c27] at H
                have c27b0 := eq_true c27
                have c27b1 : decide (0 ≤ (ji26)) = true := decide_eq_true c27
                clear c27
                by_cases c28 : (ji26) ≤ (t325.length : Int)
                · rw [if_pos c28] at H
                  have c28b0 := eq_true c28
                  have c28b1 : decide ((ji26) ≤ (t325.length : Int)) = true := decide_eq_true c28
                  clear c28
                  obtain ⟨y340, hy340⟩ : ∃ y_ : List (S40), y_ = (t325.drop ((ji26) : Int).toNat) := ⟨_, rfl⟩
                  replace H : (if y337.length + y340.length < 1759218604441 then ((some (y337 ++ y340 : List (S40))).bind fun y345 => (if (y345.length : Int) = 0 then (registrarlaw10_BatchParts.j1 kj4 t323 22 t324 t325 t324 y345) else (registrarlaw10_BatchParts.j1 kj4 t323 0 t324 t325 t324 y345))) else (none)) = some r := by first | (rw [hy340]; with_reducible exact H) | (have H2_ := (Option.bind_some _ _).symm.trans H; rw [hy340]; with_reducible exact H2_) | (have H2_ := (Option.bind_some _ _).symm.trans H; with_reducible exact H2_) | with_reducible exact H | (rw [hy340]; exact H) | exact H
                  have Ny340 := Aside0.mk hy340
                  clear hy340
                  by_cases c29 : y337.length + y340.length < 1759218604441
                  · rw [if_pos c29] at H
                    have LMc29 := Aside0.mk c29
                    clear c29
                    obtain ⟨y345, hy345⟩ : ∃ y_ : List (S40), y_ = (y337 ++ y340) := ⟨_, rfl⟩
                    replace H : (if (y345.length : Int) = 0 then (registrarlaw10_BatchParts.j1 kj4 t323 22 t324 t325 t324 y345) else (registrarlaw10_BatchParts.j1 kj4 t323 0 t324 t325 t324 y345)) = some r := by first | (rw [hy345]; with_reducible exact H) | (have H2_ := (Option.bind_some _ _).symm.trans H; rw [hy345]; with_reducible exact H2_) | (have H2_ := (Option.bind_some _ _).symm.trans H; with_reducible exact H2_) | with_reducible exact H | (rw [hy345]; exact H) | exact H
                    have Ny345 := Aside0.mk hy345
                    clear hy345
                    have HC30 := Aside0.mk H
                    clear H
                    try go_wp2
                    have n0_ := Aside0.mk (Kd.N_drew HO_323001.out)
                    have n1_ := Aside0.mk (blk_drew BK322.out)
                    have n2_ := Aside0.mk (below_drew1 HB.out)
                    clear HO_323001
                    clear BK322
                    clear HB
                    have HO_323001 := n0_
                    have BK322 := n1_
                    have HB := n2_
                    clear n0_ n1_ n2_
                    have q32 : (a1 : Int) ≤ ((t325.length : Int) : Int) := of_decide_eq_true (by first | (with_reducible assumption) | assumption)
                    obtain ⟨i032, hi032, _, hsz32, _⟩ := info_parts info40
                    have hroom32 : t325.length ≤ co11 := (Kd.N_reads' HO_323001.out).2.1
                    have hC32 : Kd.F k40 _ _ Ao11 t325.length t325 := (Kd.V_at (base := w.heap.size) (Kd.N_V HO_323001.out)).2.2
                    have hcut32 := cut_to (P := Try.prog) 22 40 .i64 Try.underlying22 hi032 Ao11 t325.length co11 a1 (of_decide_eq_true (by first | (with_reducible assumption) | assumption)) q32 hroom32
                    have hr32 := Kd.F_take (m := (a1 : Int).toNat) hC32 (by omega)
                    have hy32 : y332.length = (a1 : Int).toNat := (by rw [Ny332.out, List.length_take]; omega)
                    rw [← Ny332.out] at hr32
                    rw [← hy32] at hcut32
                    have HO336 := Aside0.mk (show Kd.V k40 40 _ w.heap.size _ (.slice Ao11 y332.length co11) y332 from Kd.V_mk (by omega) hr32)
                    have HC336 := Aside0.mk (show y332.length ≤ co11 from by omega)
                    clear hr32 hC32 hroom32 hi032 hsz32
                    have KY32 := Aside0.mk hy32
                    clear hy32
                    replace q32 := eq_true q32
                    have q33 : ((ji26) : Int) ≤ ((t325.length : Int) : Int) := of_decide_eq_true (by first | (with_reducible assumption) | assumption)
                    obtain ⟨i033, hi033, _, hsz33, _⟩ := info_parts info40
                    have hroom33 : t325.length ≤ co11 := (Kd.N_reads' HO_323001.out).2.1
                    have hC33 : Kd.F k40 _ _ Ao11 t325.length t325 := (Kd.V_at (base := w.heap.size) (Kd.N_V HO_323001.out)).2.2
                    have q033 : (0 : Int) ≤ ((ji26) : Int) := of_decide_eq_true (by first | (with_reducible assumption) | assumption)
                    have hcut33 := cut_from (P := Try.prog) 22 40 .i64 Try.underlying22 hi033 4 hsz33 Ao11 t325.length co11 (ji26) q033 q33
                    have hr33 := Kd.F_cut (m := ((ji26) : Int).toNat) (c := co11) hC33 (by omega) hroom33
                    obtain ⟨A33, hA33⟩ : ∃ A1, A1 = (if co11 = ((ji26) : Int).toNat then Ao11 else (Ao11 : Option Addr).map (·.add (((ji26) : Int).toNat * 4))) := ⟨_, rfl⟩
                    obtain ⟨c33, hc33⟩ : ∃ c1, c1 = co11 - ((ji26) : Int).toNat := ⟨_, rfl⟩
                    have hy33 : y340.length = t325.length - ((ji26) : Int).toNat := (by rw [Ny340.out, List.length_drop] <;> omega)
                    rw [show (t325).drop ((ji26) : Int).toNat = y340 from Ny340.out.symm] at hr33
                    replace hr33 : Kd.F k40 _ _ A33 y340.length y340 := (by rw [hA33]; exact hr33)
                    rw [← hy33, ← hA33, ← hc33] at hcut33
                    have HO344 := Aside0.mk (show Kd.V k40 40 _ w.heap.size _ (.slice A33 y340.length c33) y340 from Kd.V_mk (by rw [hy33, hc33]; exact Nat.sub_le_sub_right hroom33 _) hr33)
                    have HC344 := Aside0.mk (show y340.length ≤ c33 from by rw [hy33, hc33]; exact Nat.sub_le_sub_right hroom33 _)
                    clear hr33 hC33 hroom33 hi033 hsz33 hc33
                    have KY33 := Aside0.mk hy33
                    have KA33 := Aside0.mk hA33
                    clear hy33 hA33
                    replace q33 := eq_true q33
                    refine start_ (n := 17) (S := fun w' => w'.cell? ⟨gb322, 0, none⟩ = some (.int .i64 t324) ∧ w'.cell? ⟨gb322, 1, none⟩ = some (.slice Ao11 t325.length co11)) (ds := []) #[false, false, false, false, false, false, false, false, false, false, false, false, false, false, false, false, false] (by kernel_rfl) rfl rfl ⟨(blk_cell BK322.out 0).trans rfl, (blk_cell BK322.out 1).trans rfl⟩ (fun hHeld => ?_); refine with_tabW registrarlaw10_BatchParts.tab5 registrarlaw10_BatchParts.bits5 (fun HT_ HW_ => ?_)
                    generalize wc.drew = w31 at HO_323001 BK322 HB HO336 HO344 hHeld ⊢
                    refine pure_ (i := 0) (N := some 26) (v := ?_) (a' := ?_) #[true, false, false, false, false, false, false, false, false, false, false, false, false, false, false, false, false] rfl rfl (any_of HT_.out (by kernel_rfl)) (fun _ _ _ h => h) (Or.inl ⟨by rfl, ?_⟩) ?_ ?_
                    rotate_left
                    · intro w'
                      go_simp
                      with_reducible rfl
                    rotate_left
                    · simp only [Act.put, List.setIfInBounds_toArray, List.set_cons_zero, List.set_cons_succ, i64_w, i32_w]
                      rfl
                    refine pure_ (i := 3) (N := some 29) (v := ?_) (a' := ?_) #[true, false, false, true, false, false, false, false, false, false, false, false, false, false, false, false, false] rfl rfl (any_of HT_.out (by kernel_rfl)) (fun _ _ _ h => h) (Or.inl ⟨by rfl, ?_⟩) ?_ ?_
                    rotate_left
                    · intro w'
                      go_simp
                      with_reducible rfl
                    rotate_left
                    · simp only [Act.put, List.setIfInBounds_toArray, List.set_cons_zero, List.set_cons_succ, i64_w, i32_w]
                      rfl
                    refine pure_ (i := 5) (N := some 31) (v := ?_) (a' := ?_) #[true, false, false, true, false, true, false, false, false, false, false, false, false, false, false, false, false] rfl rfl (any_of HT_.out (by kernel_rfl)) (fun _ _ _ h => h) (Or.inl ⟨by rfl, ?_⟩) ?_ ?_
                    rotate_left
                    · intro w'
                      go_simp
                      with_reducible rfl
                    rotate_left
                    · simp only [Act.put, List.setIfInBounds_toArray, List.set_cons_zero, List.set_cons_succ, i64_w, i32_w]
                      rfl
                    refine pure_ (i := 8) (N := some 34) (v := ?_) (a' := ?_) #[true, false, false, true, false, true, false, false, true, false, false, false, false, false, false, false, false] rfl rfl (any_of HT_.out (by kernel_rfl)) (fun _ _ _ h => h) (Or.inl ⟨by rfl, ?_⟩) ?_ ?_
                    rotate_left
                    · intro w'
                      go_simp
                      with_reducible rfl
                    rotate_left
                    · simp only [Act.put, List.setIfInBounds_toArray, List.set_cons_zero, List.set_cons_succ, i64_w, i32_w]
                      rfl
                    refine pure_ (i := 10) (N := some 36) (v := ?_) (a' := ?_) #[true, false, false, true, false, true, false, false, true, false, true, false, false, false, false, false, false] rfl rfl (any_of HT_.out (by kernel_rfl)) (fun _ _ _ h => h) (Or.inl ⟨by rfl, ?_⟩) ?_ ?_
                    rotate_left
                    · intro w'
                      go_simp
                      with_reducible rfl
                    rotate_left
                    · simp only [Act.put, List.setIfInBounds_toArray, List.set_cons_zero, List.set_cons_succ, i64_w, i32_w]
                      rfl
                    refine pure_ (i := 11) (N := some 37) (v := ?_) (a' := ?_) #[true, false, false, true, false, true, false, false, true, false, true, true, false, false, false, false, false] rfl rfl (any_of HT_.out (by kernel_rfl)) (fun _ _ _ h => h) (Or.inl ⟨by rfl, ?_⟩) ?_ ?_
                    rotate_left
                    · intro w'
                      go_simp
                      with_reducible rfl
                    rotate_left
                    · simp only [Act.put, List.setIfInBounds_toArray, List.set_cons_zero, List.set_cons_succ, i64_w, i32_w]
                      rfl
                    refine take_ (i := 1) (N := some 27) (v := ?_) (a' := ?_) #[true, true, false, true, false, true, false, false, true, false, true, true, false, false, false, false, false] rfl rfl (take_ofW HT_.out HW_.out (by kernel_rfl)) (fun _ _ _ h => h) (Or.inl ⟨by rfl, ?_⟩) hHeld ?_ ?_
                    rotate_left
                    · rintro w' ⟨s0, s1⟩
                      go_simp
                      with_reducible rfl
                    rotate_left
                    · simp only [Act.put, List.setIfInBounds_toArray, List.set_cons_zero, List.set_cons_succ, i64_w, i32_w]
                      rfl
                    refine take_ (i := 4) (N := some 30) (v := ?_) (a' := ?_) #[true, true, false, true, true, true, false, false, true, false, true, true, false, false, false, false, false] rfl rfl (take_ofW HT_.out HW_.out (by kernel_rfl)) (fun _ _ _ h => h) (Or.inl ⟨by rfl, ?_⟩) hHeld ?_ ?_
                    rotate_left
                    · rintro w' ⟨s0, s1⟩
                      go_simp
                      with_reducible rfl
                    rotate_left
                    · simp only [Act.put, List.setIfInBounds_toArray, List.set_cons_zero, List.set_cons_succ, i64_w, i32_w]
                      rfl
                    refine pure_ (i := 6) (N := some 32) (v := ?_) (a' := ?_) #[true, true, false, true, true, true, true, false, true, false, true, true, false, false, false, false, false] rfl rfl (any_of HT_.out (by kernel_rfl)) (fun _ _ _ h => h) (Or.inl ⟨by rfl, ?_⟩) ?_ ?_
                    rotate_left
                    · intro w'
                      go_simp
                      with_reducible rfl
                    rotate_left
                    · simp only [Act.put, List.setIfInBounds_toArray, List.set_cons_zero, List.set_cons_succ, i64_w, i32_w]
                      rfl
                    refine take_ (i := 9) (N := some 35) (v := ?_) (a' := ?_) #[true, true, false, true, true, true, true, false, true, true, true, true, false, false, false, false, false] rfl rfl (take_ofW HT_.out HW_.out (by kernel_rfl)) (fun _ _ _ h => h) (Or.inl ⟨by rfl, ?_⟩) hHeld ?_ ?_
                    rotate_left
                    · rintro w' ⟨s0, s1⟩
                      go_simp
                      with_reducible rfl
                    rotate_left
                    · simp only [Act.put, List.setIfInBounds_toArray, List.set_cons_zero, List.set_cons_succ, i64_w, i32_w]
                      rfl
                    refine pure_ (i := 12) (N := some 38) (v := ?_) (a' := ?_) #[true, true, false, true, true, true, true, false, true, true, true, true, true, false, false, false, false] rfl rfl (any_of HT_.out (by kernel_rfl)) (fun _ _ _ h => h) (Or.inl ⟨by rfl, ?_⟩) ?_ ?_
                    rotate_left
                    · intro w'
                      go_simp
                      with_reducible rfl
                    rotate_left
                    · simp only [Act.put, List.setIfInBounds_toArray, List.set_cons_zero, List.set_cons_succ, i64_w, i32_w]
                      rfl
                    refine join_ (σ := Value × Value × Value × Nat) 1 #[true, true, true, true, true, true, true, true, true, true, true, true, true, true, true, true, false] (fun s_ => [(28, s_.1), (33, s_.2.1), (39, s_.2.2.1), (6, .pointer (some ⟨s_.2.2.2, 0, none⟩)), (40, .agg #[.int .i64 t324, s_.2.2.1])]) (fun s_ w' => (w'.cell? ⟨gb322, 0, none⟩ = some (.int .i64 t324) ∧ w'.cell? ⟨gb322, 1, none⟩ = some (.slice Ao11 t325.length co11)) ∧ (Kd.V k40 40 w' w.heap.size (fun k_ => some k_ ≠ (s_.2.2.1 : Value).ownBlock ∧ k_ ≠ gb322 ∧ k_ ≠ s_.2.2.2) (.slice Ao11 y332.length co11) y332) ∧ (Kd.V k40 40 w' w.heap.size (fun k_ => some k_ ≠ (s_.2.2.1 : Value).ownBlock ∧ k_ ≠ gb322 ∧ k_ ≠ s_.2.2.2) (.slice A33 y340.length c33) y340) ∧ (Kd.N k40 40 w' w.heap.size (fun k_ => k_ ≠ gb322 ∧ k_ ≠ s_.2.2.2) s_.2.2.1 y345) ∧ (Kd.N k40 40 w' w.heap.size (fun k_ => some k_ ≠ (s_.2.2.1 : Value).ownBlock ∧ k_ ≠ gb322 ∧ k_ ≠ s_.2.2.2) (.slice Ao11 t325.length co11) t325) ∧ (w'.heap[gb322]? = some (.cells #[.int .i64 t324, .slice Ao11 t325.length co11] 24 (0, 0))) ∧ (w'.heap[s_.2.2.2]? = some (.cells #[.int .i64 0, .slice none 0 0] 24 (0, 0))) ∧ (w.heap.size ≤ s_.2.2.2) ∧ (w.heap.size ≤ s_.2.2.2) ∧ (gb322 ≠ s_.2.2.2) ∧ (s_.2.2.2 ≠ gb322) ∧ (Below w.heap.size w w')) ?_ ?_
                    rotate_left
                    · intro hCont
                      refine two_ (i := 2) (j := 15) (Ni := some 28) (Nj := some 6) #[true, true, true, true, true, true, true, false, true, true, true, true, true, false, false, false, false] #[true, true, false, true, true, true, true, false, true, true, true, true, true, false, false, true, false] rfl rfl rfl rfl (two_of HT_.out (by kernel_rfl)) (by decide) (by decide) (fun K hK => ?_) (fun K hK => ?_)
                      · skip
                        refine Kd.N_lit_step k40 _ 40 ?hg (N' := 28) ?hd (xs := ([] : List (S40))) (inner := []) (ok := (fun k_ => some k_ ≠ (.slice Ao11 t325.length co11 : Value).ownBlock ∧ k_ ≠ gb322)) (okp := (fun k_ => some k_ ≠ (.slice Ao11 t325.length co11 : Value).ownBlock ∧ k_ ≠ gb322)) ?hr ?hp (fun _ hk => hk) ((show ∀ k_, w31.heap.size ≤ k_ → (fun k_ => some k_ ≠ (.slice Ao11 t325.length co11 : Value).ownBlock ∧ k_ ≠ gb322) k_ from fun k_ hk => ⟨Kd.fresh' (Kd.N_lt (by (with_reducible repeat (first | apply Kd.N_alloc | apply Kd.N_drewN | apply Kd.N_drew)); exact HO_323001.out)) k_ hk, Kd.freshB (g := gb322) (o := .cells #[.int .i64 t324, .slice Ao11 t325.length co11] 24 (0, 0)) (by (with_reducible repeat (first | refine blk_drewN ?_ _ | refine blk_drew ?_ | refine blk_alloc ?_ _)); exact BK322.out) k_ hk⟩) _ (Nat.le_refl _)) (Below.refl _ _) (Nat.le_refl _) (by simp) ?_; (case hd => rfl); (case hg => rfl); (case hr => first | (go_simp; done) | (go_simp; rfl)); (case hp => exact (Reps.none _ _))
                        intro v330 w34 ho35 hb hg_ hnew_
                        clear hg_ hnew_
                        (first | rw [← Ny329.out] at ho35 | (simp only [Int.reduceToNat] at ho35; rw [← Ny329.out] at ho35))
                        have n0_ := Aside0.mk (Kd.N_elder' (by (with_reducible repeat (first | apply Kd.N_alloc | apply Kd.N_drewN | apply Kd.N_drew)); exact HO_323001.out) (Kd.N_base ho35) hb)
                        have n1_ := Aside0.mk (Kd.V_elder' (by (with_reducible repeat (first | apply Kd.V_alloc | apply Kd.V_drewN | apply Kd.V_drew)); exact HO336.out) (Kd.N_base ho35) hb)
                        have n2_ := Aside0.mk (Kd.V_elder' (by (with_reducible repeat (first | apply Kd.V_alloc | apply Kd.V_drewN | apply Kd.V_drew)); exact HO344.out) (Kd.N_base ho35) hb)
                        have n3_ := Aside0.mk (Kd.N_lower ho35 (below_size (by repeat (first | (with_reducible first | exact HB.out | apply below_alloc | apply pw_below_drewN | apply below_drew1 | refine below_set ?_ GE322.out) | exact HB.out))))
                        have n4_ := Aside0.mk (blk_below (g := gb322) (o := .cells #[.int .i64 t324, .slice Ao11 t325.length co11] 24 (0, 0)) (by (with_reducible repeat (first | refine blk_drewN ?_ _ | refine blk_drew ?_ | refine blk_alloc ?_ _)); exact BK322.out) hb)
                        have n5_ := Aside0.mk (below_step (by repeat (first | (with_reducible first | exact HB.out | apply below_alloc | apply pw_below_drewN | apply below_drew1 | refine below_set ?_ GE322.out) | exact HB.out)) hb)
                        clear HO_323001
                        clear HO336
                        clear HO344
                        clear BK322
                        clear HB
                        have HO_323001 := n0_
                        have HO336 := n1_
                        have HO344 := n2_
                        have HO331 := n3_
                        have BK322 := n4_
                        have HB := n5_
                        clear n0_ n1_ n2_ n3_ n4_ n5_
                        clear hb ho35
                        refine hK.out _ _ ⟨(blk_cell BK322.out 0).trans rfl, (blk_cell BK322.out 1).trans rfl⟩ (fun hHeld => ?_)
                        clear hK K
                        refine norm_ (a' := ?_) ?_ ?_
                        rotate_left
                        · show Act.put _ (some 28) _ = _
                          simp only [Act.put, List.setIfInBounds_toArray, List.set_cons_zero, List.set_cons_succ, i64_w, i32_w]
                          rfl
                        refine two_ (i := 7) (j := 15) (Ni := some 33) (Nj := some 6) #[true, true, true, true, true, true, true, true, true, true, true, true, true, false, false, false, false] #[true, true, true, true, true, true, true, false, true, true, true, true, true, false, false, true, false] rfl rfl rfl rfl (two_of HT_.out (by kernel_rfl)) (by decide) (by decide) (fun K hK => ?_) (fun K hK => ?_)
                        · skip
                          refine Kd.N_append_rows_step k40 (w0 := w) w.heap.size (by rfl) (.tmp 28) (.tmp 32) 22 40 (.agg #[(.string ⟨#[]⟩), (.string ⟨#[]⟩), (.slice none 0 0), (.slice none 0 0)]) 80 rfl Try.underlying22 info40 rfl (by decide) (by omega) v330 y329 y332 _ _ _ (fun k_ => k_ ≠ gb322) (fun k_ => ((fun k_ => k_ ≠ gb322)) k_ ∧ some k_ ≠ (v330 : Value).ownBlock) rfl rfl ?aO ?aR (fun _ hk => hk) ?aF ?aB ?aS ?aL ?_
                          (case aR => exact (by skip; exact Kd.V_F (Kd.V_mono (ok' := (fun k_ => ((fun k_ => k_ ≠ gb322)) k_ ∧ some k_ ≠ (v330 : Value).ownBlock)) (HO336.out) (fun k_ hk => ⟨hk.1, hk.2⟩))))
                          (case aB => exact (by repeat (first | (with_reducible first | exact HB.out | apply below_alloc | apply pw_below_drewN | apply below_drew1 | refine below_set ?_ GE322.out) | exact HB.out)))
                          (case aF => exact (fun k_ hk => Kd.freshB (g := gb322) (o := .cells #[.int .i64 t324, .slice Ao11 t325.length co11] 24 (0, 0)) (by (with_reducible repeat (first | refine blk_drewN ?_ _ | refine blk_drew ?_ | refine blk_alloc ?_ _)); exact BK322.out) k_ hk))
                          (case aO => exact (by (with_reducible repeat (first | apply Kd.N_alloc | apply Kd.N_drewN | apply Kd.N_drew)); exact Kd.N_mono HO331.out (fun _ hk => hk.2)))
                          (case aS => exact (below_size (by repeat (first | (with_reducible first | exact HB.out | apply below_alloc | apply pw_below_drewN | apply below_drew1 | refine below_set ?_ GE322.out) | exact HB.out))))
                          (case aL => have := LMc25.out; omega)
                          intro v338 w36 ho hb hg hat
                          rw [← Ny337.out] at ho
                          have n0_ := Aside0.mk (Kd.N_afterv (ok := (fun k_ => k_ ≠ gb322)) (by (with_reducible repeat (first | apply Kd.N_alloc | apply Kd.N_drewN | apply Kd.N_drew)); exact HO_323001.out) hg hat)
                          have n1_ := Aside0.mk (blk_grown (g := gb322) (o := .cells #[.int .i64 t324, .slice Ao11 t325.length co11] 24 (0, 0)) (by (with_reducible repeat (first | refine blk_drewN ?_ _ | refine blk_drew ?_ | refine blk_alloc ?_ _)); exact BK322.out) hg (Kd.N_ne HO331.out BK322.out (by decide)))
                          have n2_ := Aside0.mk (Kd.V_afterv (ok := (fun k_ => k_ ≠ gb322)) (by (with_reducible repeat (first | apply Kd.V_alloc | apply Kd.V_drewN | apply Kd.V_drew)); exact HO336.out) hg hat)
                          have n3_ := Aside0.mk (Kd.V_afterv (ok := (fun k_ => k_ ≠ gb322)) (by (with_reducible repeat (first | apply Kd.V_alloc | apply Kd.V_drewN | apply Kd.V_drew)); exact HO344.out) hg hat)
                          have n4_ := Aside0.mk (hb)
                          have n5_ := Aside0.mk (ho)
                          clear HO_323001
                          clear BK322
                          clear HO336
                          clear HO344
                          clear HB
                          clear HO331
                          have HO_323001 := n0_
                          have BK322 := n1_
                          have HO336 := n2_
                          have HO344 := n3_
                          have HB := n4_
                          have HO339 := n5_
                          clear n0_ n1_ n2_ n3_ n4_ n5_
                          clear ho hb hg hat
                          refine hK.out _ _ ⟨(blk_cell BK322.out 0).trans rfl, (blk_cell BK322.out 1).trans rfl⟩ (fun hHeld => ?_)
                          clear hK K
                          refine norm_ (a' := ?_) ?_ ?_
                          rotate_left
                          · show Act.put _ (some 33) _ = _
                            simp only [Act.put, List.setIfInBounds_toArray, List.set_cons_zero, List.set_cons_succ, i64_w, i32_w]
                            rfl
                          refine two_ (i := 13) (j := 15) (Ni := some 39) (Nj := some 6) #[true, true, true, true, true, true, true, true, true, true, true, true, true, true, false, false, false] #[true, true, true, true, true, true, true, true, true, true, true, true, true, false, false, true, false] rfl rfl rfl rfl (two_of HT_.out (by kernel_rfl)) (by decide) (by decide) (fun K hK => ?_) (fun K hK => ?_)
                          · skip
                            refine Kd.N_append_rows_step k40 (w0 := w) w.heap.size (by rfl) (.tmp 33) (.tmp 38) 22 40 (.agg #[(.string ⟨#[]⟩), (.string ⟨#[]⟩), (.slice none 0 0), (.slice none 0 0)]) 80 rfl Try.underlying22 info40 rfl (by decide) (by omega) v338 y337 y340 _ _ _ (fun k_ => k_ ≠ gb322) (fun k_ => ((fun k_ => k_ ≠ gb322)) k_ ∧ some k_ ≠ (v338 : Value).ownBlock) rfl rfl ?aO ?aR (fun _ hk => hk) ?aF ?aB ?aS ?aL ?_
                            (case aR => exact (by skip; exact Kd.V_F (Kd.V_mono (ok' := (fun k_ => ((fun k_ => k_ ≠ gb322)) k_ ∧ some k_ ≠ (v338 : Value).ownBlock)) (HO344.out) (fun k_ hk => ⟨hk.1, hk.2⟩))))
                            (case aB => exact (by repeat (first | (with_reducible first | exact HB.out | apply below_alloc | apply pw_below_drewN | apply below_drew1 | refine below_set ?_ GE322.out) | exact HB.out)))
                            (case aF => exact (fun k_ hk => Kd.freshB (g := gb322) (o := .cells #[.int .i64 t324, .slice Ao11 t325.length co11] 24 (0, 0)) (by (with_reducible repeat (first | refine blk_drewN ?_ _ | refine blk_drew ?_ | refine blk_alloc ?_ _)); exact BK322.out) k_ hk))
                            (case aO => exact (by (with_reducible repeat (first | apply Kd.N_alloc | apply Kd.N_drewN | apply Kd.N_drew)); exact HO339.out))
                            (case aS => exact (below_size (by repeat (first | (with_reducible first | exact HB.out | apply below_alloc | apply pw_below_drewN | apply below_drew1 | refine below_set ?_ GE322.out) | exact HB.out))))
                            (case aL => have := LMc29.out; omega)
                            intro v346 w37 ho hb hg hat
                            rw [← Ny345.out] at ho
                            have n0_ := Aside0.mk (Kd.N_afterv (ok := (fun k_ => k_ ≠ gb322)) (by (with_reducible repeat (first | apply Kd.N_alloc | apply Kd.N_drewN | apply Kd.N_drew)); exact HO_323001.out) hg hat)
                            have n1_ := Aside0.mk (blk_grown (g := gb322) (o := .cells #[.int .i64 t324, .slice Ao11 t325.length co11] 24 (0, 0)) (by (with_reducible repeat (first | refine blk_drewN ?_ _ | refine blk_drew ?_ | refine blk_alloc ?_ _)); exact BK322.out) hg (Kd.N_ne HO339.out BK322.out (by decide)))
                            have n2_ := Aside0.mk (Kd.V_afterv (ok := (fun k_ => k_ ≠ gb322)) (by (with_reducible repeat (first | apply Kd.V_alloc | apply Kd.V_drewN | apply Kd.V_drew)); exact HO336.out) hg hat)
                            have n3_ := Aside0.mk (Kd.V_afterv (ok := (fun k_ => k_ ≠ gb322)) (by (with_reducible repeat (first | apply Kd.V_alloc | apply Kd.V_drewN | apply Kd.V_drew)); exact HO344.out) hg hat)
                            have n4_ := Aside0.mk (hb)
                            have n5_ := Aside0.mk (ho)
                            clear HO_323001
                            clear BK322
                            clear HO336
                            clear HO344
                            clear HB
                            clear HO339
                            have HO_323001 := n0_
                            have BK322 := n1_
                            have HO336 := n2_
                            have HO344 := n3_
                            have HB := n4_
                            have HO347 := n5_
                            clear n0_ n1_ n2_ n3_ n4_ n5_
                            clear ho hb hg hat
                            obtain ⟨Ao38, co38, eo38⟩ := Kd.N_slice HO347.out
                            (first | subst eo38 | (injection eo38 with f1_ f2_ f3_; have f4_ := f1_.symm; have f5_ := f3_.symm; clear f1_ f2_ f3_; subst f4_; subst f5_))
                            refine hK.out _ _ ⟨(blk_cell BK322.out 0).trans rfl, (blk_cell BK322.out 1).trans rfl⟩ (fun hHeld => ?_)
                            clear hK K
                            refine norm_ (a' := ?_) ?_ ?_
                            rotate_left
                            · show Act.put _ (some 39) _ = _
                              simp only [Act.put, List.setIfInBounds_toArray, List.set_cons_zero, List.set_cons_succ, i64_w, i32_w]
                              rfl
                            refine pure_ (i := 14) (N := some 40) (v := ?_) (a' := ?_) #[true, true, true, true, true, true, true, true, true, true, true, true, true, true, true, false, false] rfl rfl (any_of HT_.out (by kernel_rfl)) (fun _ _ _ h => h) (Or.inl ⟨by rfl, ?_⟩) ?_ ?_
                            rotate_left
                            · intro w'
                              go_simp
                              with_reducible rfl
                            rotate_left
                            · simp only [Act.put, List.setIfInBounds_toArray, List.set_cons_zero, List.set_cons_succ, i64_w, i32_w]
                              rfl
                            refine one_ (i := 15) (N := some 6) #[true, true, true, true, true, true, true, true, true, true, true, true, true, true, true, true, false] rfl rfl (one_of HT_.out (by kernel_rfl)) (by decide) (fun K hK => ?_)
                            refine box_step ?hg (N := 6) ?hd (cs := #[.int .i64 0, .slice none 0 0]) (t := 24) ?hr ?_; (case hd => rfl); (case hg => rfl); (case hr => first | (go_simp; done) | (go_simp; rfl))
                            intro gb348 hg w39 hbox hb
                            have n0_ := Aside0.mk (Kd.N_below (Kd.N_elderB (by (with_reducible repeat (first | apply Kd.N_alloc | apply Kd.N_drewN | apply Kd.N_drew)); exact HO_323001.out) gb348 (Nat.le_of_eq hg.symm)) hb)
                            have n1_ := Aside0.mk (Kd.V_below (Kd.V_elderB (by (with_reducible repeat (first | apply Kd.V_alloc | apply Kd.V_drewN | apply Kd.V_drew)); exact HO336.out) gb348 (Nat.le_of_eq hg.symm)) hb)
                            have n2_ := Aside0.mk (Kd.V_below (Kd.V_elderB (by (with_reducible repeat (first | apply Kd.V_alloc | apply Kd.V_drewN | apply Kd.V_drew)); exact HO344.out) gb348 (Nat.le_of_eq hg.symm)) hb)
                            have n3_ := Aside0.mk (Kd.N_below (Kd.N_elderB (by (with_reducible repeat (first | apply Kd.N_alloc | apply Kd.N_drewN | apply Kd.N_drew)); exact HO347.out) gb348 (Nat.le_of_eq hg.symm)) hb)
                            have n4_ := Aside0.mk (blk_below (g := gb322) (o := .cells #[.int .i64 t324, .slice Ao11 t325.length co11] 24 (0, 0)) (by (with_reducible repeat (first | refine blk_drewN ?_ _ | refine blk_drew ?_ | refine blk_alloc ?_ _)); exact BK322.out) hb)
                            have n5_ := Aside0.mk (below_step (by repeat (first | (with_reducible first | exact HB.out | apply below_alloc | apply pw_below_drewN | apply below_drew1 | refine below_set ?_ GE322.out) | exact HB.out)) hb)
                            have n6_ := Aside0.mk (hbox)
                            have n7_ := Aside0.mk ((by rw [hg]; exact (below_size (by repeat (first | (with_reducible first | exact HB.out | apply below_alloc | apply pw_below_drewN | apply below_drew1 | refine below_set ?_ GE322.out) | exact HB.out))) : w.heap.size ≤ gb348))
                            have n8_ := Aside0.mk ((by rw [hg]; exact (below_size (by repeat (first | (with_reducible first | exact HB.out | apply below_alloc | apply pw_below_drewN | apply below_drew1 | refine below_set ?_ GE322.out) | exact HB.out))) : w.heap.size ≤ gb348))
                            have n9_ := Aside0.mk ((by rw [hg]; exact Nat.ne_of_lt (blk_lt (g := gb322) (o := .cells #[.int .i64 t324, .slice Ao11 t325.length co11] 24 (0, 0)) (by (with_reducible repeat (first | refine blk_drewN ?_ _ | refine blk_drew ?_ | refine blk_alloc ?_ _)); exact BK322.out)) : gb322 ≠ gb348))
                            have n10_ := Aside0.mk ((by rw [hg]; exact Nat.ne_of_gt (blk_lt (g := gb322) (o := .cells #[.int .i64 t324, .slice Ao11 t325.length co11] 24 (0, 0)) (by (with_reducible repeat (first | refine blk_drewN ?_ _ | refine blk_drew ?_ | refine blk_alloc ?_ _)); exact BK322.out)) : gb348 ≠ gb322))
                            clear HO_323001
                            clear HO336
                            clear HO344
                            clear HO347
                            clear BK322
                            clear HB
                            have HO_323001 := n0_
                            have HO336 := n1_
                            have HO344 := n2_
                            have HO347 := n3_
                            have BK322 := n4_
                            have HB := n5_
                            have BK348 := n6_
                            have GW348 := n7_
                            have GE348 := n8_
                            have NB322_348 := n9_
                            have NB348_322 := n10_
                            clear n0_ n1_ n2_ n3_ n4_ n5_ n6_ n7_ n8_ n9_ n10_
                            clear hb hbox hg
                            refine hK.out _ _ ⟨(blk_cell BK322.out 0).trans rfl, (blk_cell BK322.out 1).trans rfl⟩ (fun hHeld => ?_)
                            clear hK K
                            refine norm_ (a' := ?_) ?_ ?_
                            rotate_left
                            · show Act.put _ (some 6) _ = _
                              simp only [Act.put, List.setIfInBounds_toArray, List.set_cons_zero, List.set_cons_succ, i64_w, i32_w]
                              rfl
                            exact norm_ (by simp only [putAll, Act.put, List.setIfInBounds_toArray, List.set_cons_zero, List.set_cons_succ]) (hCont (v330, v338, .slice Ao38 y345.length co38, gb348) _ ⟨hHeld, (by (with_reducible repeat (first | apply Kd.V_alloc | apply Kd.V_drewN | apply Kd.V_drew)); exact Kd.V_mono HO336.out (fun _ hk => ⟨hk.1.2, ⟨hk.1.1, hk.2⟩⟩)), (by (with_reducible repeat (first | apply Kd.V_alloc | apply Kd.V_drewN | apply Kd.V_drew)); exact Kd.V_mono HO344.out (fun _ hk => ⟨hk.1.2, ⟨hk.1.1, hk.2⟩⟩)), (by (with_reducible repeat (first | apply Kd.N_alloc | apply Kd.N_drewN | apply Kd.N_drew)); exact HO347.out), (by (with_reducible repeat (first | apply Kd.N_alloc | apply Kd.N_drewN | apply Kd.N_drew)); exact Kd.N_mono HO_323001.out (fun _ hk => ⟨hk.1.2, ⟨hk.1.1, hk.2⟩⟩)), (by (with_reducible repeat (first | refine blk_drewN ?_ _ | refine blk_drew ?_ | refine blk_alloc ?_ _)); exact BK322.out), (by (with_reducible repeat (first | refine blk_drewN ?_ _ | refine blk_drew ?_ | refine blk_alloc ?_ _)); exact BK348.out), GW348.out, GE348.out, NB322_348.out, NB348_322.out, (by repeat (first | (with_reducible first | exact HB.out | apply below_alloc | apply pw_below_drewN | apply below_drew1 | refine below_set ?_ GE322.out | refine below_set ?_ GE348.out) | exact HB.out))⟩)
                          · skip
                            refine box_step ?hg (N := 6) ?hd (cs := #[.int .i64 0, .slice none 0 0]) (t := 24) ?hr ?_; (case hd => rfl); (case hg => rfl); (case hr => first | (go_simp; done) | (go_simp; rfl))
                            intro gb348 hg w37 hbox hb
                            have n0_ := Aside0.mk (Kd.N_below (Kd.N_elderB (by (with_reducible repeat (first | apply Kd.N_alloc | apply Kd.N_drewN | apply Kd.N_drew)); exact HO_323001.out) gb348 (Nat.le_of_eq hg.symm)) hb)
                            have n1_ := Aside0.mk (Kd.V_below (Kd.V_elderB (by (with_reducible repeat (first | apply Kd.V_alloc | apply Kd.V_drewN | apply Kd.V_drew)); exact HO336.out) gb348 (Nat.le_of_eq hg.symm)) hb)
                            have n2_ := Aside0.mk (Kd.V_below (Kd.V_elderB (by (with_reducible repeat (first | apply Kd.V_alloc | apply Kd.V_drewN | apply Kd.V_drew)); exact HO344.out) gb348 (Nat.le_of_eq hg.symm)) hb)
                            have n3_ := Aside0.mk (Kd.N_below (Kd.N_elderB (by (with_reducible repeat (first | apply Kd.N_alloc | apply Kd.N_drewN | apply Kd.N_drew)); exact HO339.out) gb348 (Nat.le_of_eq hg.symm)) hb)
                            have n4_ := Aside0.mk (blk_below (g := gb322) (o := .cells #[.int .i64 t324, .slice Ao11 t325.length co11] 24 (0, 0)) (by (with_reducible repeat (first | refine blk_drewN ?_ _ | refine blk_drew ?_ | refine blk_alloc ?_ _)); exact BK322.out) hb)
                            have n5_ := Aside0.mk (below_step (by repeat (first | (with_reducible first | exact HB.out | apply below_alloc | apply pw_below_drewN | apply below_drew1 | refine below_set ?_ GE322.out) | exact HB.out)) hb)
                            have n6_ := Aside0.mk (hbox)
                            have n7_ := Aside0.mk ((by rw [hg]; exact (below_size (by repeat (first | (with_reducible first | exact HB.out | apply below_alloc | apply pw_below_drewN | apply below_drew1 | refine below_set ?_ GE322.out) | exact HB.out))) : w.heap.size ≤ gb348))
                            have n8_ := Aside0.mk ((by rw [hg]; exact (below_size (by repeat (first | (with_reducible first | exact HB.out | apply below_alloc | apply pw_below_drewN | apply below_drew1 | refine below_set ?_ GE322.out) | exact HB.out))) : w.heap.size ≤ gb348))
                            have n9_ := Aside0.mk ((by rw [hg]; exact Nat.ne_of_lt (blk_lt (g := gb322) (o := .cells #[.int .i64 t324, .slice Ao11 t325.length co11] 24 (0, 0)) (by (with_reducible repeat (first | refine blk_drewN ?_ _ | refine blk_drew ?_ | refine blk_alloc ?_ _)); exact BK322.out)) : gb322 ≠ gb348))
                            have n10_ := Aside0.mk ((by rw [hg]; exact Nat.ne_of_gt (blk_lt (g := gb322) (o := .cells #[.int .i64 t324, .slice Ao11 t325.length co11] 24 (0, 0)) (by (with_reducible repeat (first | refine blk_drewN ?_ _ | refine blk_drew ?_ | refine blk_alloc ?_ _)); exact BK322.out)) : gb348 ≠ gb322))
                            clear HO_323001
                            clear HO336
                            clear HO344
                            clear HO339
                            clear BK322
                            clear HB
                            have HO_323001 := n0_
                            have HO336 := n1_
                            have HO344 := n2_
                            have HO339 := n3_
                            have BK322 := n4_
                            have HB := n5_
                            have BK348 := n6_
                            have GW348 := n7_
                            have GE348 := n8_
                            have NB322_348 := n9_
                            have NB348_322 := n10_
                            clear n0_ n1_ n2_ n3_ n4_ n5_ n6_ n7_ n8_ n9_ n10_
                            clear hb hbox hg
                            refine hK.out _ _ ⟨(blk_cell BK322.out 0).trans rfl, (blk_cell BK322.out 1).trans rfl⟩ (fun hHeld => ?_)
                            clear hK K
                            refine norm_ (a' := ?_) ?_ ?_
                            rotate_left
                            · show Act.put _ (some 6) _ = _
                              simp only [Act.put, List.setIfInBounds_toArray, List.set_cons_zero, List.set_cons_succ, i64_w, i32_w]
                              rfl
                            refine one_ (i := 13) (N := some 39) #[true, true, true, true, true, true, true, true, true, true, true, true, true, true, false, true, false] rfl rfl (one_of HT_.out (by kernel_rfl)) (by decide) (fun K hK => ?_)
                            refine Kd.N_append_rows_step k40 (w0 := w) w.heap.size (by rfl) (.tmp 33) (.tmp 38) 22 40 (.agg #[(.string ⟨#[]⟩), (.string ⟨#[]⟩), (.slice none 0 0), (.slice none 0 0)]) 80 rfl Try.underlying22 info40 rfl (by decide) (by omega) v338 y337 y340 _ _ _ (fun k_ => k_ ≠ gb322 ∧ k_ ≠ gb348) (fun k_ => ((fun k_ => k_ ≠ gb322 ∧ k_ ≠ gb348)) k_ ∧ some k_ ≠ (v338 : Value).ownBlock) rfl rfl ?aO ?aR (fun _ hk => hk) ?aF ?aB ?aS ?aL ?_
                            (case aR => exact (by skip; exact Kd.V_F (Kd.V_mono (ok' := (fun k_ => ((fun k_ => k_ ≠ gb322 ∧ k_ ≠ gb348)) k_ ∧ some k_ ≠ (v338 : Value).ownBlock)) (HO344.out) (fun k_ hk => ⟨⟨hk.1.1, hk.2⟩, hk.1.2⟩))))
                            (case aB => exact (by repeat (first | (with_reducible first | exact HB.out | apply below_alloc | apply pw_below_drewN | apply below_drew1 | refine below_set ?_ GE322.out | refine below_set ?_ GE348.out) | exact HB.out)))
                            (case aF => exact (fun k_ hk => ⟨Kd.freshB (g := gb322) (o := .cells #[.int .i64 t324, .slice Ao11 t325.length co11] 24 (0, 0)) (by (with_reducible repeat (first | refine blk_drewN ?_ _ | refine blk_drew ?_ | refine blk_alloc ?_ _)); exact BK322.out) k_ hk, Kd.freshB (g := gb348) (o := .cells #[.int .i64 0, .slice none 0 0] 24 (0, 0)) (by (with_reducible repeat (first | refine blk_drewN ?_ _ | refine blk_drew ?_ | refine blk_alloc ?_ _)); exact BK348.out) k_ hk⟩))
                            (case aO => exact (by (with_reducible repeat (first | apply Kd.N_alloc | apply Kd.N_drewN | apply Kd.N_drew)); exact HO339.out))
                            (case aS => exact (below_size (by repeat (first | (with_reducible first | exact HB.out | apply below_alloc | apply pw_below_drewN | apply below_drew1 | refine below_set ?_ GE322.out | refine below_set ?_ GE348.out) | exact HB.out))))
                            (case aL => have := LMc29.out; omega)
                            intro v346 w38 ho hb hg hat
                            rw [← Ny345.out] at ho
                            have n0_ := Aside0.mk (Kd.N_afterv (ok := (fun k_ => k_ ≠ gb322 ∧ k_ ≠ gb348)) (by (with_reducible repeat (first | apply Kd.N_alloc | apply Kd.N_drewN | apply Kd.N_drew)); exact Kd.N_mono HO_323001.out (fun _ hk => ⟨⟨hk.1.1, hk.2⟩, hk.1.2⟩)) hg hat)
                            have n1_ := Aside0.mk (blk_grown (g := gb322) (o := .cells #[.int .i64 t324, .slice Ao11 t325.length co11] 24 (0, 0)) (by (with_reducible repeat (first | refine blk_drewN ?_ _ | refine blk_drew ?_ | refine blk_alloc ?_ _)); exact BK322.out) hg (Kd.N_ne HO339.out BK322.out (by decide)))
                            have n2_ := Aside0.mk (Kd.V_afterv (ok := (fun k_ => k_ ≠ gb322 ∧ k_ ≠ gb348)) (by (with_reducible repeat (first | apply Kd.V_alloc | apply Kd.V_drewN | apply Kd.V_drew)); exact Kd.V_mono HO336.out (fun _ hk => ⟨⟨hk.1.1, hk.2⟩, hk.1.2⟩)) hg hat)
                            have n3_ := Aside0.mk (Kd.V_afterv (ok := (fun k_ => k_ ≠ gb322 ∧ k_ ≠ gb348)) (by (with_reducible repeat (first | apply Kd.V_alloc | apply Kd.V_drewN | apply Kd.V_drew)); exact Kd.V_mono HO344.out (fun _ hk => ⟨⟨hk.1.1, hk.2⟩, hk.1.2⟩)) hg hat)
                            have n4_ := Aside0.mk (blk_grown (g := gb348) (o := .cells #[.int .i64 0, .slice none 0 0] 24 (0, 0)) (by (with_reducible repeat (first | refine blk_drewN ?_ _ | refine blk_drew ?_ | refine blk_alloc ?_ _)); exact BK348.out) hg (Kd.N_ne HO339.out BK348.out (by decide)))
                            have n5_ := Aside0.mk (hb)
                            have n6_ := Aside0.mk (ho)
                            clear HO_323001
                            clear BK322
                            clear HO336
                            clear HO344
                            clear BK348
                            clear HB
                            clear HO339
                            have HO_323001 := n0_
                            have BK322 := n1_
                            have HO336 := n2_
                            have HO344 := n3_
                            have BK348 := n4_
                            have HB := n5_
                            have HO347 := n6_
                            clear n0_ n1_ n2_ n3_ n4_ n5_ n6_
                            clear ho hb hg hat
                            obtain ⟨Ao39, co39, eo39⟩ := Kd.N_slice HO347.out
                            (first | subst eo39 | (injection eo39 with f1_ f2_ f3_; have f4_ := f1_.symm; have f5_ := f3_.symm; clear f1_ f2_ f3_; subst f4_; subst f5_))
                            refine hK.out _ _ ⟨(blk_cell BK322.out 0).trans rfl, (blk_cell BK322.out 1).trans rfl⟩ (fun hHeld => ?_)
                            clear hK K
                            refine norm_ (a' := ?_) ?_ ?_
                            rotate_left
                            · show Act.put _ (some 39) _ = _
                              simp only [Act.put, List.setIfInBounds_toArray, List.set_cons_zero, List.set_cons_succ, i64_w, i32_w]
                              rfl
                            refine pure_ (i := 14) (N := some 40) (v := ?_) (a' := ?_) #[true, true, true, true, true, true, true, true, true, true, true, true, true, true, true, true, false] rfl rfl (any_of HT_.out (by kernel_rfl)) (fun _ _ _ h => h) (Or.inl ⟨by rfl, ?_⟩) ?_ ?_
                            rotate_left
                            · intro w'
                              go_simp
                              with_reducible rfl
                            rotate_left
                            · simp only [Act.put, List.setIfInBounds_toArray, List.set_cons_zero, List.set_cons_succ, i64_w, i32_w]
                              rfl
                            exact norm_ (by simp only [putAll, Act.put, List.setIfInBounds_toArray, List.set_cons_zero, List.set_cons_succ]) (hCont (v330, v338, .slice Ao39 y345.length co39, gb348) _ ⟨hHeld, (by (with_reducible repeat (first | apply Kd.V_alloc | apply Kd.V_drewN | apply Kd.V_drew)); exact Kd.V_mono HO336.out (fun _ hk => ⟨hk.2, ⟨hk.1.1, hk.1.2⟩⟩)), (by (with_reducible repeat (first | apply Kd.V_alloc | apply Kd.V_drewN | apply Kd.V_drew)); exact Kd.V_mono HO344.out (fun _ hk => ⟨hk.2, ⟨hk.1.1, hk.1.2⟩⟩)), (by (with_reducible repeat (first | apply Kd.N_alloc | apply Kd.N_drewN | apply Kd.N_drew)); exact HO347.out), (by (with_reducible repeat (first | apply Kd.N_alloc | apply Kd.N_drewN | apply Kd.N_drew)); exact Kd.N_mono HO_323001.out (fun _ hk => ⟨hk.2, ⟨hk.1.1, hk.1.2⟩⟩)), (by (with_reducible repeat (first | refine blk_drewN ?_ _ | refine blk_drew ?_ | refine blk_alloc ?_ _)); exact BK322.out), (by (with_reducible repeat (first | refine blk_drewN ?_ _ | refine blk_drew ?_ | refine blk_alloc ?_ _)); exact BK348.out), GW348.out, GE348.out, NB322_348.out, NB348_322.out, (by repeat (first | (with_reducible first | exact HB.out | apply below_alloc | apply pw_below_drewN | apply below_drew1 | refine below_set ?_ GE322.out | refine below_set ?_ GE348.out) | exact HB.out))⟩)
                        · skip
                          refine box_step ?hg (N := 6) ?hd (cs := #[.int .i64 0, .slice none 0 0]) (t := 24) ?hr ?_; (case hd => rfl); (case hg => rfl); (case hr => first | (go_simp; done) | (go_simp; rfl))
                          intro gb348 hg w36 hbox hb
                          have n0_ := Aside0.mk (Kd.N_below (Kd.N_elderB (by (with_reducible repeat (first | apply Kd.N_alloc | apply Kd.N_drewN | apply Kd.N_drew)); exact HO_323001.out) gb348 (Nat.le_of_eq hg.symm)) hb)
                          have n1_ := Aside0.mk (Kd.V_below (Kd.V_elderB (by (with_reducible repeat (first | apply Kd.V_alloc | apply Kd.V_drewN | apply Kd.V_drew)); exact HO336.out) gb348 (Nat.le_of_eq hg.symm)) hb)
                          have n2_ := Aside0.mk (Kd.V_below (Kd.V_elderB (by (with_reducible repeat (first | apply Kd.V_alloc | apply Kd.V_drewN | apply Kd.V_drew)); exact HO344.out) gb348 (Nat.le_of_eq hg.symm)) hb)
                          have n3_ := Aside0.mk (Kd.N_below (Kd.N_elderB (by (with_reducible repeat (first | apply Kd.N_alloc | apply Kd.N_drewN | apply Kd.N_drew)); exact HO331.out) gb348 (Nat.le_of_eq hg.symm)) hb)
                          have n4_ := Aside0.mk (blk_below (g := gb322) (o := .cells #[.int .i64 t324, .slice Ao11 t325.length co11] 24 (0, 0)) (by (with_reducible repeat (first | refine blk_drewN ?_ _ | refine blk_drew ?_ | refine blk_alloc ?_ _)); exact BK322.out) hb)
                          have n5_ := Aside0.mk (below_step (by repeat (first | (with_reducible first | exact HB.out | apply below_alloc | apply pw_below_drewN | apply below_drew1 | refine below_set ?_ GE322.out) | exact HB.out)) hb)
                          have n6_ := Aside0.mk (hbox)
                          have n7_ := Aside0.mk ((by rw [hg]; exact (below_size (by repeat (first | (with_reducible first | exact HB.out | apply below_alloc | apply pw_below_drewN | apply below_drew1 | refine below_set ?_ GE322.out) | exact HB.out))) : w.heap.size ≤ gb348))
                          have n8_ := Aside0.mk ((by rw [hg]; exact (below_size (by repeat (first | (with_reducible first | exact HB.out | apply below_alloc | apply pw_below_drewN | apply below_drew1 | refine below_set ?_ GE322.out) | exact HB.out))) : w.heap.size ≤ gb348))
                          have n9_ := Aside0.mk ((by rw [hg]; exact Nat.ne_of_lt (blk_lt (g := gb322) (o := .cells #[.int .i64 t324, .slice Ao11 t325.length co11] 24 (0, 0)) (by (with_reducible repeat (first | refine blk_drewN ?_ _ | refine blk_drew ?_ | refine blk_alloc ?_ _)); exact BK322.out)) : gb322 ≠ gb348))
                          have n10_ := Aside0.mk ((by rw [hg]; exact Nat.ne_of_gt (blk_lt (g := gb322) (o := .cells #[.int .i64 t324, .slice Ao11 t325.length co11] 24 (0, 0)) (by (with_reducible repeat (first | refine blk_drewN ?_ _ | refine blk_drew ?_ | refine blk_alloc ?_ _)); exact BK322.out)) : gb348 ≠ gb322))
                          clear HO_323001
                          clear HO336
                          clear HO344
                          clear HO331
                          clear BK322
                          clear HB
                          have HO_323001 := n0_
                          have HO336 := n1_
                          have HO344 := n2_
                          have HO331 := n3_
                          have BK322 := n4_
                          have HB := n5_
                          have BK348 := n6_
                          have GW348 := n7_
                          have GE348 := n8_
                          have NB322_348 := n9_
                          have NB348_322 := n10_
                          clear n0_ n1_ n2_ n3_ n4_ n5_ n6_ n7_ n8_ n9_ n10_
                          clear hb hbox hg
                          refine hK.out _ _ ⟨(blk_cell BK322.out 0).trans rfl, (blk_cell BK322.out 1).trans rfl⟩ (fun hHeld => ?_)
                          clear hK K
                          refine norm_ (a' := ?_) ?_ ?_
                          rotate_left
                          · show Act.put _ (some 6) _ = _
                            simp only [Act.put, List.setIfInBounds_toArray, List.set_cons_zero, List.set_cons_succ, i64_w, i32_w]
                            rfl
                          refine one_ (i := 7) (N := some 33) #[true, true, true, true, true, true, true, true, true, true, true, true, true, false, false, true, false] rfl rfl (one_of HT_.out (by kernel_rfl)) (by decide) (fun K hK => ?_)
                          refine Kd.N_append_rows_step k40 (w0 := w) w.heap.size (by rfl) (.tmp 28) (.tmp 32) 22 40 (.agg #[(.string ⟨#[]⟩), (.string ⟨#[]⟩), (.slice none 0 0), (.slice none 0 0)]) 80 rfl Try.underlying22 info40 rfl (by decide) (by omega) v330 y329 y332 _ _ _ (fun k_ => k_ ≠ gb322 ∧ k_ ≠ gb348) (fun k_ => ((fun k_ => k_ ≠ gb322 ∧ k_ ≠ gb348)) k_ ∧ some k_ ≠ (v330 : Value).ownBlock) rfl rfl ?aO ?aR (fun _ hk => hk) ?aF ?aB ?aS ?aL ?_
                          (case aR => exact (by skip; exact Kd.V_F (Kd.V_mono (ok' := (fun k_ => ((fun k_ => k_ ≠ gb322 ∧ k_ ≠ gb348)) k_ ∧ some k_ ≠ (v330 : Value).ownBlock)) (HO336.out) (fun k_ hk => ⟨⟨hk.1.1, hk.2⟩, hk.1.2⟩))))
                          (case aB => exact (by repeat (first | (with_reducible first | exact HB.out | apply below_alloc | apply pw_below_drewN | apply below_drew1 | refine below_set ?_ GE322.out | refine below_set ?_ GE348.out) | exact HB.out)))
                          (case aF => exact (fun k_ hk => ⟨Kd.freshB (g := gb322) (o := .cells #[.int .i64 t324, .slice Ao11 t325.length co11] 24 (0, 0)) (by (with_reducible repeat (first | refine blk_drewN ?_ _ | refine blk_drew ?_ | refine blk_alloc ?_ _)); exact BK322.out) k_ hk, Kd.freshB (g := gb348) (o := .cells #[.int .i64 0, .slice none 0 0] 24 (0, 0)) (by (with_reducible repeat (first | refine blk_drewN ?_ _ | refine blk_drew ?_ | refine blk_alloc ?_ _)); exact BK348.out) k_ hk⟩))
                          (case aO => exact (by (with_reducible repeat (first | apply Kd.N_alloc | apply Kd.N_drewN | apply Kd.N_drew)); exact Kd.N_mono HO331.out (fun _ hk => ⟨hk.1.2, hk.2⟩)))
                          (case aS => exact (below_size (by repeat (first | (with_reducible first | exact HB.out | apply below_alloc | apply pw_below_drewN | apply below_drew1 | refine below_set ?_ GE322.out | refine below_set ?_ GE348.out) | exact HB.out))))
                          (case aL => have := LMc25.out; omega)
                          intro v338 w37 ho hb hg hat
                          rw [← Ny337.out] at ho
                          have n0_ := Aside0.mk (Kd.N_afterv (ok := (fun k_ => k_ ≠ gb322 ∧ k_ ≠ gb348)) (by (with_reducible repeat (first | apply Kd.N_alloc | apply Kd.N_drewN | apply Kd.N_drew)); exact Kd.N_mono HO_323001.out (fun _ hk => ⟨⟨hk.1.1, hk.2⟩, hk.1.2⟩)) hg hat)
                          have n1_ := Aside0.mk (blk_grown (g := gb322) (o := .cells #[.int .i64 t324, .slice Ao11 t325.length co11] 24 (0, 0)) (by (with_reducible repeat (first | refine blk_drewN ?_ _ | refine blk_drew ?_ | refine blk_alloc ?_ _)); exact BK322.out) hg (Kd.N_ne HO331.out BK322.out (by decide)))
                          have n2_ := Aside0.mk (Kd.V_afterv (ok := (fun k_ => k_ ≠ gb322 ∧ k_ ≠ gb348)) (by (with_reducible repeat (first | apply Kd.V_alloc | apply Kd.V_drewN | apply Kd.V_drew)); exact Kd.V_mono HO336.out (fun _ hk => ⟨⟨hk.1.1, hk.2⟩, hk.1.2⟩)) hg hat)
                          have n3_ := Aside0.mk (Kd.V_afterv (ok := (fun k_ => k_ ≠ gb322 ∧ k_ ≠ gb348)) (by (with_reducible repeat (first | apply Kd.V_alloc | apply Kd.V_drewN | apply Kd.V_drew)); exact Kd.V_mono HO344.out (fun _ hk => ⟨⟨hk.1.1, hk.2⟩, hk.1.2⟩)) hg hat)
                          have n4_ := Aside0.mk (blk_grown (g := gb348) (o := .cells #[.int .i64 0, .slice none 0 0] 24 (0, 0)) (by (with_reducible repeat (first | refine blk_drewN ?_ _ | refine blk_drew ?_ | refine blk_alloc ?_ _)); exact BK348.out) hg (Kd.N_ne HO331.out BK348.out (by decide)))
                          have n5_ := Aside0.mk (hb)
                          have n6_ := Aside0.mk (ho)
                          clear HO_323001
                          clear BK322
                          clear HO336
                          clear HO344
                          clear BK348
                          clear HB
                          clear HO331
                          have HO_323001 := n0_
                          have BK322 := n1_
                          have HO336 := n2_
                          have HO344 := n3_
                          have BK348 := n4_
                          have HB := n5_
                          have HO339 := n6_
                          clear n0_ n1_ n2_ n3_ n4_ n5_ n6_
                          clear ho hb hg hat
                          refine hK.out _ _ ⟨(blk_cell BK322.out 0).trans rfl, (blk_cell BK322.out 1).trans rfl⟩ (fun hHeld => ?_)
                          clear hK K
                          refine norm_ (a' := ?_) ?_ ?_
                          rotate_left
                          · show Act.put _ (some 33) _ = _
                            simp only [Act.put, List.setIfInBounds_toArray, List.set_cons_zero, List.set_cons_succ, i64_w, i32_w]
                            rfl
                          refine one_ (i := 13) (N := some 39) #[true, true, true, true, true, true, true, true, true, true, true, true, true, true, false, true, false] rfl rfl (one_of HT_.out (by kernel_rfl)) (by decide) (fun K hK => ?_)
                          refine Kd.N_append_rows_step k40 (w0 := w) w.heap.size (by rfl) (.tmp 33) (.tmp 38) 22 40 (.agg #[(.string ⟨#[]⟩), (.string ⟨#[]⟩), (.slice none 0 0), (.slice none 0 0)]) 80 rfl Try.underlying22 info40 rfl (by decide) (by omega) v338 y337 y340 _ _ _ (fun k_ => k_ ≠ gb322 ∧ k_ ≠ gb348) (fun k_ => ((fun k_ => k_ ≠ gb322 ∧ k_ ≠ gb348)) k_ ∧ some k_ ≠ (v338 : Value).ownBlock) rfl rfl ?aO ?aR (fun _ hk => hk) ?aF ?aB ?aS ?aL ?_
                          (case aR => exact (by skip; exact Kd.V_F (Kd.V_mono (ok' := (fun k_ => ((fun k_ => k_ ≠ gb322 ∧ k_ ≠ gb348)) k_ ∧ some k_ ≠ (v338 : Value).ownBlock)) (HO344.out) (fun k_ hk => ⟨⟨hk.1.1, hk.1.2⟩, hk.2⟩))))
                          (case aB => exact (by repeat (first | (with_reducible first | exact HB.out | apply below_alloc | apply pw_below_drewN | apply below_drew1 | refine below_set ?_ GE322.out | refine below_set ?_ GE348.out) | exact HB.out)))
                          (case aF => exact (fun k_ hk => ⟨Kd.freshB (g := gb322) (o := .cells #[.int .i64 t324, .slice Ao11 t325.length co11] 24 (0, 0)) (by (with_reducible repeat (first | refine blk_drewN ?_ _ | refine blk_drew ?_ | refine blk_alloc ?_ _)); exact BK322.out) k_ hk, Kd.freshB (g := gb348) (o := .cells #[.int .i64 0, .slice none 0 0] 24 (0, 0)) (by (with_reducible repeat (first | refine blk_drewN ?_ _ | refine blk_drew ?_ | refine blk_alloc ?_ _)); exact BK348.out) k_ hk⟩))
                          (case aO => exact (by (with_reducible repeat (first | apply Kd.N_alloc | apply Kd.N_drewN | apply Kd.N_drew)); exact HO339.out))
                          (case aS => exact (below_size (by repeat (first | (with_reducible first | exact HB.out | apply below_alloc | apply pw_below_drewN | apply below_drew1 | refine below_set ?_ GE322.out | refine below_set ?_ GE348.out) | exact HB.out))))
                          (case aL => have := LMc29.out; omega)
                          intro v346 w38 ho hb hg hat
                          rw [← Ny345.out] at ho
                          have n0_ := Aside0.mk (Kd.N_afterv (ok := (fun k_ => k_ ≠ gb322 ∧ k_ ≠ gb348)) (by (with_reducible repeat (first | apply Kd.N_alloc | apply Kd.N_drewN | apply Kd.N_drew)); exact HO_323001.out) hg hat)
                          have n1_ := Aside0.mk (blk_grown (g := gb322) (o := .cells #[.int .i64 t324, .slice Ao11 t325.length co11] 24 (0, 0)) (by (with_reducible repeat (first | refine blk_drewN ?_ _ | refine blk_drew ?_ | refine blk_alloc ?_ _)); exact BK322.out) hg (Kd.N_ne HO339.out BK322.out (by decide)))
                          have n2_ := Aside0.mk (Kd.V_afterv (ok := (fun k_ => k_ ≠ gb322 ∧ k_ ≠ gb348)) (by (with_reducible repeat (first | apply Kd.V_alloc | apply Kd.V_drewN | apply Kd.V_drew)); exact HO336.out) hg hat)
                          have n3_ := Aside0.mk (Kd.V_afterv (ok := (fun k_ => k_ ≠ gb322 ∧ k_ ≠ gb348)) (by (with_reducible repeat (first | apply Kd.V_alloc | apply Kd.V_drewN | apply Kd.V_drew)); exact HO344.out) hg hat)
                          have n4_ := Aside0.mk (blk_grown (g := gb348) (o := .cells #[.int .i64 0, .slice none 0 0] 24 (0, 0)) (by (with_reducible repeat (first | refine blk_drewN ?_ _ | refine blk_drew ?_ | refine blk_alloc ?_ _)); exact BK348.out) hg (Kd.N_ne HO339.out BK348.out (by decide)))
                          have n5_ := Aside0.mk (hb)
                          have n6_ := Aside0.mk (ho)
                          clear HO_323001
                          clear BK322
                          clear HO336
                          clear HO344
                          clear BK348
                          clear HB
                          clear HO339
                          have HO_323001 := n0_
                          have BK322 := n1_
                          have HO336 := n2_
                          have HO344 := n3_
                          have BK348 := n4_
                          have HB := n5_
                          have HO347 := n6_
                          clear n0_ n1_ n2_ n3_ n4_ n5_ n6_
                          clear ho hb hg hat
                          obtain ⟨Ao39, co39, eo39⟩ := Kd.N_slice HO347.out
                          (first | subst eo39 | (injection eo39 with f1_ f2_ f3_; have f4_ := f1_.symm; have f5_ := f3_.symm; clear f1_ f2_ f3_; subst f4_; subst f5_))
                          refine hK.out _ _ ⟨(blk_cell BK322.out 0).trans rfl, (blk_cell BK322.out 1).trans rfl⟩ (fun hHeld => ?_)
                          clear hK K
                          refine norm_ (a' := ?_) ?_ ?_
                          rotate_left
                          · show Act.put _ (some 39) _ = _
                            simp only [Act.put, List.setIfInBounds_toArray, List.set_cons_zero, List.set_cons_succ, i64_w, i32_w]
                            rfl
                          refine pure_ (i := 14) (N := some 40) (v := ?_) (a' := ?_) #[true, true, true, true, true, true, true, true, true, true, true, true, true, true, true, true, false] rfl rfl (any_of HT_.out (by kernel_rfl)) (fun _ _ _ h => h) (Or.inl ⟨by rfl, ?_⟩) ?_ ?_
                          rotate_left
                          · intro w'
                            go_simp
                            with_reducible rfl
                          rotate_left
                          · simp only [Act.put, List.setIfInBounds_toArray, List.set_cons_zero, List.set_cons_succ, i64_w, i32_w]
                            rfl
                          exact norm_ (by simp only [putAll, Act.put, List.setIfInBounds_toArray, List.set_cons_zero, List.set_cons_succ]) (hCont (v330, v338, .slice Ao39 y345.length co39, gb348) _ ⟨hHeld, (by (with_reducible repeat (first | apply Kd.V_alloc | apply Kd.V_drewN | apply Kd.V_drew)); exact Kd.V_mono HO336.out (fun _ hk => ⟨hk.2, ⟨hk.1.1, hk.1.2⟩⟩)), (by (with_reducible repeat (first | apply Kd.V_alloc | apply Kd.V_drewN | apply Kd.V_drew)); exact Kd.V_mono HO344.out (fun _ hk => ⟨hk.2, ⟨hk.1.1, hk.1.2⟩⟩)), (by (with_reducible repeat (first | apply Kd.N_alloc | apply Kd.N_drewN | apply Kd.N_drew)); exact HO347.out), (by (with_reducible repeat (first | apply Kd.N_alloc | apply Kd.N_drewN | apply Kd.N_drew)); exact Kd.N_mono HO_323001.out (fun _ hk => ⟨hk.2, ⟨hk.1.1, hk.1.2⟩⟩)), (by (with_reducible repeat (first | refine blk_drewN ?_ _ | refine blk_drew ?_ | refine blk_alloc ?_ _)); exact BK322.out), (by (with_reducible repeat (first | refine blk_drewN ?_ _ | refine blk_drew ?_ | refine blk_alloc ?_ _)); exact BK348.out), GW348.out, GE348.out, NB322_348.out, NB348_322.out, (by repeat (first | (with_reducible first | exact HB.out | apply below_alloc | apply pw_below_drewN | apply below_drew1 | refine below_set ?_ GE322.out | refine below_set ?_ GE348.out) | exact HB.out))⟩)
                      · skip
                        refine box_step ?hg (N := 6) ?hd (cs := #[.int .i64 0, .slice none 0 0]) (t := 24) ?hr ?_; (case hd => rfl); (case hg => rfl); (case hr => first | (go_simp; done) | (go_simp; rfl))
                        intro gb348 hg w34 hbox hb
                        have n0_ := Aside0.mk (Kd.N_below (Kd.N_elderB (by (with_reducible repeat (first | apply Kd.N_alloc | apply Kd.N_drewN | apply Kd.N_drew)); exact HO_323001.out) gb348 (Nat.le_of_eq hg.symm)) hb)
                        have n1_ := Aside0.mk (Kd.V_below (Kd.V_elderB (by (with_reducible repeat (first | apply Kd.V_alloc | apply Kd.V_drewN | apply Kd.V_drew)); exact HO336.out) gb348 (Nat.le_of_eq hg.symm)) hb)
                        have n2_ := Aside0.mk (Kd.V_below (Kd.V_elderB (by (with_reducible repeat (first | apply Kd.V_alloc | apply Kd.V_drewN | apply Kd.V_drew)); exact HO344.out) gb348 (Nat.le_of_eq hg.symm)) hb)
                        have n3_ := Aside0.mk (blk_below (g := gb322) (o := .cells #[.int .i64 t324, .slice Ao11 t325.length co11] 24 (0, 0)) (by (with_reducible repeat (first | refine blk_drewN ?_ _ | refine blk_drew ?_ | refine blk_alloc ?_ _)); exact BK322.out) hb)
                        have n4_ := Aside0.mk (below_step (by repeat (first | (with_reducible first | exact HB.out | apply below_alloc | apply pw_below_drewN | apply below_drew1 | refine below_set ?_ GE322.out) | exact HB.out)) hb)
                        have n5_ := Aside0.mk (hbox)
                        have n6_ := Aside0.mk ((by rw [hg]; exact (below_size (by repeat (first | (with_reducible first | exact HB.out | apply below_alloc | apply pw_below_drewN | apply below_drew1 | refine below_set ?_ GE322.out) | exact HB.out))) : w.heap.size ≤ gb348))
                        have n7_ := Aside0.mk ((by rw [hg]; exact (below_size (by repeat (first | (with_reducible first | exact HB.out | apply below_alloc | apply pw_below_drewN | apply below_drew1 | refine below_set ?_ GE322.out) | exact HB.out))) : w.heap.size ≤ gb348))
                        have n8_ := Aside0.mk ((by rw [hg]; exact Nat.ne_of_lt (blk_lt (g := gb322) (o := .cells #[.int .i64 t324, .slice Ao11 t325.length co11] 24 (0, 0)) (by (with_reducible repeat (first | refine blk_drewN ?_ _ | refine blk_drew ?_ | refine blk_alloc ?_ _)); exact BK322.out)) : gb322 ≠ gb348))
                        have n9_ := Aside0.mk ((by rw [hg]; exact Nat.ne_of_gt (blk_lt (g := gb322) (o := .cells #[.int .i64 t324, .slice Ao11 t325.length co11] 24 (0, 0)) (by (with_reducible repeat (first | refine blk_drewN ?_ _ | refine blk_drew ?_ | refine blk_alloc ?_ _)); exact BK322.out)) : gb348 ≠ gb322))
                        clear HO_323001
                        clear HO336
                        clear HO344
                        clear BK322
                        clear HB
                        have HO_323001 := n0_
                        have HO336 := n1_
                        have HO344 := n2_
                        have BK322 := n3_
                        have HB := n4_
                        have BK348 := n5_
                        have GW348 := n6_
                        have GE348 := n7_
                        have NB322_348 := n8_
                        have NB348_322 := n9_
                        clear n0_ n1_ n2_ n3_ n4_ n5_ n6_ n7_ n8_ n9_
                        clear hb hbox hg
                        refine hK.out _ _ ⟨(blk_cell BK322.out 0).trans rfl, (blk_cell BK322.out 1).trans rfl⟩ (fun hHeld => ?_)
                        clear hK K
                        refine norm_ (a' := ?_) ?_ ?_
                        rotate_left
                        · show Act.put _ (some 6) _ = _
                          simp only [Act.put, List.setIfInBounds_toArray, List.set_cons_zero, List.set_cons_succ, i64_w, i32_w]
                          rfl
                        refine one_ (i := 2) (N := some 28) #[true, true, true, true, true, true, true, false, true, true, true, true, true, false, false, true, false] rfl rfl (one_of HT_.out (by kernel_rfl)) (by decide) (fun K hK => ?_)
                        refine Kd.N_lit_step k40 _ 40 ?hg (N' := 28) ?hd (xs := ([] : List (S40))) (inner := []) (ok := (fun k_ => some k_ ≠ (.slice Ao11 t325.length co11 : Value).ownBlock ∧ k_ ≠ gb322 ∧ k_ ≠ gb348)) (okp := (fun k_ => some k_ ≠ (.slice Ao11 t325.length co11 : Value).ownBlock ∧ k_ ≠ gb322 ∧ k_ ≠ gb348)) ?hr ?hp (fun _ hk => hk) ((show ∀ k_, w34.heap.size ≤ k_ → (fun k_ => some k_ ≠ (.slice Ao11 t325.length co11 : Value).ownBlock ∧ k_ ≠ gb322 ∧ k_ ≠ gb348) k_ from fun k_ hk => ⟨Kd.fresh' (Kd.N_lt (by (with_reducible repeat (first | apply Kd.N_alloc | apply Kd.N_drewN | apply Kd.N_drew)); exact HO_323001.out)) k_ hk, Kd.freshB (g := gb322) (o := .cells #[.int .i64 t324, .slice Ao11 t325.length co11] 24 (0, 0)) (by (with_reducible repeat (first | refine blk_drewN ?_ _ | refine blk_drew ?_ | refine blk_alloc ?_ _)); exact BK322.out) k_ hk, Kd.freshB (g := gb348) (o := .cells #[.int .i64 0, .slice none 0 0] 24 (0, 0)) (by (with_reducible repeat (first | refine blk_drewN ?_ _ | refine blk_drew ?_ | refine blk_alloc ?_ _)); exact BK348.out) k_ hk⟩) _ (Nat.le_refl _)) (Below.refl _ _) (Nat.le_refl _) (by simp) ?_; (case hd => rfl); (case hg => rfl); (case hr => first | (go_simp; done) | (go_simp; rfl)); (case hp => exact (Reps.none _ _))
                        intro v330 w35 ho36 hb hg_ hnew_
                        clear hg_ hnew_
                        (first | rw [← Ny329.out] at ho36 | (simp only [Int.reduceToNat] at ho36; rw [← Ny329.out] at ho36))
                        have n0_ := Aside0.mk (Kd.N_elder' (by (with_reducible repeat (first | apply Kd.N_alloc | apply Kd.N_drewN | apply Kd.N_drew)); exact HO_323001.out) (Kd.N_base ho36) hb)
                        have n1_ := Aside0.mk (Kd.V_elder' (by (with_reducible repeat (first | apply Kd.V_alloc | apply Kd.V_drewN | apply Kd.V_drew)); exact HO336.out) (Kd.N_base ho36) hb)
                        have n2_ := Aside0.mk (Kd.V_elder' (by (with_reducible repeat (first | apply Kd.V_alloc | apply Kd.V_drewN | apply Kd.V_drew)); exact HO344.out) (Kd.N_base ho36) hb)
                        have n3_ := Aside0.mk (Kd.N_lower ho36 (below_size (by repeat (first | (with_reducible first | exact HB.out | apply below_alloc | apply pw_below_drewN | apply below_drew1 | refine below_set ?_ GE322.out | refine below_set ?_ GE348.out) | exact HB.out))))
                        have n4_ := Aside0.mk (blk_below (g := gb322) (o := .cells #[.int .i64 t324, .slice Ao11 t325.length co11] 24 (0, 0)) (by (with_reducible repeat (first | refine blk_drewN ?_ _ | refine blk_drew ?_ | refine blk_alloc ?_ _)); exact BK322.out) hb)
                        have n5_ := Aside0.mk (blk_below (g := gb348) (o := .cells #[.int .i64 0, .slice none 0 0] 24 (0, 0)) (by (with_reducible repeat (first | refine blk_drewN ?_ _ | refine blk_drew ?_ | refine blk_alloc ?_ _)); exact BK348.out) hb)
                        have n6_ := Aside0.mk (below_step (by repeat (first | (with_reducible first | exact HB.out | apply below_alloc | apply pw_below_drewN | apply below_drew1 | refine below_set ?_ GE322.out | refine below_set ?_ GE348.out) | exact HB.out)) hb)
                        clear HO_323001
                        clear HO336
                        clear HO344
                        clear BK322
                        clear BK348
                        clear HB
                        have HO_323001 := n0_
                        have HO336 := n1_
                        have HO344 := n2_
                        have HO331 := n3_
                        have BK322 := n4_
                        have BK348 := n5_
                        have HB := n6_
                        clear n0_ n1_ n2_ n3_ n4_ n5_ n6_
                        clear hb ho36
                        refine hK.out _ _ ⟨(blk_cell BK322.out 0).trans rfl, (blk_cell BK322.out 1).trans rfl⟩ (fun hHeld => ?_)
                        clear hK K
                        refine norm_ (a' := ?_) ?_ ?_
                        rotate_left
                        · show Act.put _ (some 28) _ = _
                          simp only [Act.put, List.setIfInBounds_toArray, List.set_cons_zero, List.set_cons_succ, i64_w, i32_w]
                          rfl
                        refine one_ (i := 7) (N := some 33) #[true, true, true, true, true, true, true, true, true, true, true, true, true, false, false, true, false] rfl rfl (one_of HT_.out (by kernel_rfl)) (by decide) (fun K hK => ?_)
                        refine Kd.N_append_rows_step k40 (w0 := w) w.heap.size (by rfl) (.tmp 28) (.tmp 32) 22 40 (.agg #[(.string ⟨#[]⟩), (.string ⟨#[]⟩), (.slice none 0 0), (.slice none 0 0)]) 80 rfl Try.underlying22 info40 rfl (by decide) (by omega) v330 y329 y332 _ _ _ (fun k_ => k_ ≠ gb322 ∧ k_ ≠ gb348) (fun k_ => ((fun k_ => k_ ≠ gb322 ∧ k_ ≠ gb348)) k_ ∧ some k_ ≠ (v330 : Value).ownBlock) rfl rfl ?aO ?aR (fun _ hk => hk) ?aF ?aB ?aS ?aL ?_
                        (case aR => exact (by skip; exact Kd.V_F (Kd.V_mono (ok' := (fun k_ => ((fun k_ => k_ ≠ gb322 ∧ k_ ≠ gb348)) k_ ∧ some k_ ≠ (v330 : Value).ownBlock)) (HO336.out) (fun k_ hk => ⟨⟨hk.1.1, hk.1.2⟩, hk.2⟩))))
                        (case aB => exact (by repeat (first | (with_reducible first | exact HB.out | apply below_alloc | apply pw_below_drewN | apply below_drew1 | refine below_set ?_ GE322.out | refine below_set ?_ GE348.out) | exact HB.out)))
                        (case aF => exact (fun k_ hk => ⟨Kd.freshB (g := gb322) (o := .cells #[.int .i64 t324, .slice Ao11 t325.length co11] 24 (0, 0)) (by (with_reducible repeat (first | refine blk_drewN ?_ _ | refine blk_drew ?_ | refine blk_alloc ?_ _)); exact BK322.out) k_ hk, Kd.freshB (g := gb348) (o := .cells #[.int .i64 0, .slice none 0 0] 24 (0, 0)) (by (with_reducible repeat (first | refine blk_drewN ?_ _ | refine blk_drew ?_ | refine blk_alloc ?_ _)); exact BK348.out) k_ hk⟩))
                        (case aO => exact (by (with_reducible repeat (first | apply Kd.N_alloc | apply Kd.N_drewN | apply Kd.N_drew)); exact Kd.N_mono HO331.out (fun _ hk => ⟨hk.2.1, hk.2.2⟩)))
                        (case aS => exact (below_size (by repeat (first | (with_reducible first | exact HB.out | apply below_alloc | apply pw_below_drewN | apply below_drew1 | refine below_set ?_ GE322.out | refine below_set ?_ GE348.out) | exact HB.out))))
                        (case aL => have := LMc25.out; omega)
                        intro v338 w37 ho hb hg hat
                        rw [← Ny337.out] at ho
                        have n0_ := Aside0.mk (Kd.N_afterv (ok := (fun k_ => k_ ≠ gb322 ∧ k_ ≠ gb348)) (by (with_reducible repeat (first | apply Kd.N_alloc | apply Kd.N_drewN | apply Kd.N_drew)); exact HO_323001.out) hg hat)
                        have n1_ := Aside0.mk (blk_grown (g := gb322) (o := .cells #[.int .i64 t324, .slice Ao11 t325.length co11] 24 (0, 0)) (by (with_reducible repeat (first | refine blk_drewN ?_ _ | refine blk_drew ?_ | refine blk_alloc ?_ _)); exact BK322.out) hg (Kd.N_ne HO331.out BK322.out (by decide)))
                        have n2_ := Aside0.mk (Kd.V_afterv (ok := (fun k_ => k_ ≠ gb322 ∧ k_ ≠ gb348)) (by (with_reducible repeat (first | apply Kd.V_alloc | apply Kd.V_drewN | apply Kd.V_drew)); exact HO336.out) hg hat)
                        have n3_ := Aside0.mk (Kd.V_afterv (ok := (fun k_ => k_ ≠ gb322 ∧ k_ ≠ gb348)) (by (with_reducible repeat (first | apply Kd.V_alloc | apply Kd.V_drewN | apply Kd.V_drew)); exact HO344.out) hg hat)
                        have n4_ := Aside0.mk (blk_grown (g := gb348) (o := .cells #[.int .i64 0, .slice none 0 0] 24 (0, 0)) (by (with_reducible repeat (first | refine blk_drewN ?_ _ | refine blk_drew ?_ | refine blk_alloc ?_ _)); exact BK348.out) hg (Kd.N_ne HO331.out BK348.out (by decide)))
                        have n5_ := Aside0.mk (hb)
                        have n6_ := Aside0.mk (ho)
                        clear HO_323001
                        clear BK322
                        clear HO336
                        clear HO344
                        clear BK348
                        clear HB
                        clear HO331
                        have HO_323001 := n0_
                        have BK322 := n1_
                        have HO336 := n2_
                        have HO344 := n3_
                        have BK348 := n4_
                        have HB := n5_
                        have HO339 := n6_
                        clear n0_ n1_ n2_ n3_ n4_ n5_ n6_
                        clear ho hb hg hat
                        refine hK.out _ _ ⟨(blk_cell BK322.out 0).trans rfl, (blk_cell BK322.out 1).trans rfl⟩ (fun hHeld => ?_)
                        clear hK K
                        refine norm_ (a' := ?_) ?_ ?_
                        rotate_left
                        · show Act.put _ (some 33) _ = _
                          simp only [Act.put, List.setIfInBounds_toArray, List.set_cons_zero, List.set_cons_succ, i64_w, i32_w]
                          rfl
                        refine one_ (i := 13) (N := some 39) #[true, true, true, true, true, true, true, true, true, true, true, true, true, true, false, true, false] rfl rfl (one_of HT_.out (by kernel_rfl)) (by decide) (fun K hK => ?_)
                        refine Kd.N_append_rows_step k40 (w0 := w) w.heap.size (by rfl) (.tmp 33) (.tmp 38) 22 40 (.agg #[(.string ⟨#[]⟩), (.string ⟨#[]⟩), (.slice none 0 0), (.slice none 0 0)]) 80 rfl Try.underlying22 info40 rfl (by decide) (by omega) v338 y337 y340 _ _ _ (fun k_ => k_ ≠ gb322 ∧ k_ ≠ gb348) (fun k_ => ((fun k_ => k_ ≠ gb322 ∧ k_ ≠ gb348)) k_ ∧ some k_ ≠ (v338 : Value).ownBlock) rfl rfl ?aO ?aR (fun _ hk => hk) ?aF ?aB ?aS ?aL ?_
                        (case aR => exact (by skip; exact Kd.V_F (Kd.V_mono (ok' := (fun k_ => ((fun k_ => k_ ≠ gb322 ∧ k_ ≠ gb348)) k_ ∧ some k_ ≠ (v338 : Value).ownBlock)) (HO344.out) (fun k_ hk => ⟨⟨hk.1.1, hk.1.2⟩, hk.2⟩))))
                        (case aB => exact (by repeat (first | (with_reducible first | exact HB.out | apply below_alloc | apply pw_below_drewN | apply below_drew1 | refine below_set ?_ GE322.out | refine below_set ?_ GE348.out) | exact HB.out)))
                        (case aF => exact (fun k_ hk => ⟨Kd.freshB (g := gb322) (o := .cells #[.int .i64 t324, .slice Ao11 t325.length co11] 24 (0, 0)) (by (with_reducible repeat (first | refine blk_drewN ?_ _ | refine blk_drew ?_ | refine blk_alloc ?_ _)); exact BK322.out) k_ hk, Kd.freshB (g := gb348) (o := .cells #[.int .i64 0, .slice none 0 0] 24 (0, 0)) (by (with_reducible repeat (first | refine blk_drewN ?_ _ | refine blk_drew ?_ | refine blk_alloc ?_ _)); exact BK348.out) k_ hk⟩))
                        (case aO => exact (by (with_reducible repeat (first | apply Kd.N_alloc | apply Kd.N_drewN | apply Kd.N_drew)); exact HO339.out))
                        (case aS => exact (below_size (by repeat (first | (with_reducible first | exact HB.out | apply below_alloc | apply pw_below_drewN | apply below_drew1 | refine below_set ?_ GE322.out | refine below_set ?_ GE348.out) | exact HB.out))))
                        (case aL => have := LMc29.out; omega)
                        intro v346 w38 ho hb hg hat
                        rw [← Ny345.out] at ho
                        have n0_ := Aside0.mk (Kd.N_afterv (ok := (fun k_ => k_ ≠ gb322 ∧ k_ ≠ gb348)) (by (with_reducible repeat (first | apply Kd.N_alloc | apply Kd.N_drewN | apply Kd.N_drew)); exact HO_323001.out) hg hat)
                        have n1_ := Aside0.mk (blk_grown (g := gb322) (o := .cells #[.int .i64 t324, .slice Ao11 t325.length co11] 24 (0, 0)) (by (with_reducible repeat (first | refine blk_drewN ?_ _ | refine blk_drew ?_ | refine blk_alloc ?_ _)); exact BK322.out) hg (Kd.N_ne HO339.out BK322.out (by decide)))
                        have n2_ := Aside0.mk (Kd.V_afterv (ok := (fun k_ => k_ ≠ gb322 ∧ k_ ≠ gb348)) (by (with_reducible repeat (first | apply Kd.V_alloc | apply Kd.V_drewN | apply Kd.V_drew)); exact HO336.out) hg hat)
                        have n3_ := Aside0.mk (Kd.V_afterv (ok := (fun k_ => k_ ≠ gb322 ∧ k_ ≠ gb348)) (by (with_reducible repeat (first | apply Kd.V_alloc | apply Kd.V_drewN | apply Kd.V_drew)); exact HO344.out) hg hat)
                        have n4_ := Aside0.mk (blk_grown (g := gb348) (o := .cells #[.int .i64 0, .slice none 0 0] 24 (0, 0)) (by (with_reducible repeat (first | refine blk_drewN ?_ _ | refine blk_drew ?_ | refine blk_alloc ?_ _)); exact BK348.out) hg (Kd.N_ne HO339.out BK348.out (by decide)))
                        have n5_ := Aside0.mk (hb)
                        have n6_ := Aside0.mk (ho)
                        clear HO_323001
                        clear BK322
                        clear HO336
                        clear HO344
                        clear BK348
                        clear HB
                        clear HO339
                        have HO_323001 := n0_
                        have BK322 := n1_
                        have HO336 := n2_
                        have HO344 := n3_
                        have BK348 := n4_
                        have HB := n5_
                        have HO347 := n6_
                        clear n0_ n1_ n2_ n3_ n4_ n5_ n6_
                        clear ho hb hg hat
                        obtain ⟨Ao39, co39, eo39⟩ := Kd.N_slice HO347.out
                        (first | subst eo39 | (injection eo39 with f1_ f2_ f3_; have f4_ := f1_.symm; have f5_ := f3_.symm; clear f1_ f2_ f3_; subst f4_; subst f5_))
                        refine hK.out _ _ ⟨(blk_cell BK322.out 0).trans rfl, (blk_cell BK322.out 1).trans rfl⟩ (fun hHeld => ?_)
                        clear hK K
                        refine norm_ (a' := ?_) ?_ ?_
                        rotate_left
                        · show Act.put _ (some 39) _ = _
                          simp only [Act.put, List.setIfInBounds_toArray, List.set_cons_zero, List.set_cons_succ, i64_w, i32_w]
                          rfl
                        refine pure_ (i := 14) (N := some 40) (v := ?_) (a' := ?_) #[true, true, true, true, true, true, true, true, true, true, true, true, true, true, true, true, false] rfl rfl (any_of HT_.out (by kernel_rfl)) (fun _ _ _ h => h) (Or.inl ⟨by rfl, ?_⟩) ?_ ?_
                        rotate_left
                        · intro w'
                          go_simp
                          with_reducible rfl
                        rotate_left
                        · simp only [Act.put, List.setIfInBounds_toArray, List.set_cons_zero, List.set_cons_succ, i64_w, i32_w]
                          rfl
                        exact norm_ (by simp only [putAll, Act.put, List.setIfInBounds_toArray, List.set_cons_zero, List.set_cons_succ]) (hCont (v330, v338, .slice Ao39 y345.length co39, gb348) _ ⟨hHeld, (by (with_reducible repeat (first | apply Kd.V_alloc | apply Kd.V_drewN | apply Kd.V_drew)); exact Kd.V_mono HO336.out (fun _ hk => ⟨hk.2, ⟨hk.1.1, hk.1.2⟩⟩)), (by (with_reducible repeat (first | apply Kd.V_alloc | apply Kd.V_drewN | apply Kd.V_drew)); exact Kd.V_mono HO344.out (fun _ hk => ⟨hk.2, ⟨hk.1.1, hk.1.2⟩⟩)), (by (with_reducible repeat (first | apply Kd.N_alloc | apply Kd.N_drewN | apply Kd.N_drew)); exact HO347.out), (by (with_reducible repeat (first | apply Kd.N_alloc | apply Kd.N_drewN | apply Kd.N_drew)); exact Kd.N_mono HO_323001.out (fun _ hk => ⟨hk.2, ⟨hk.1.1, hk.1.2⟩⟩)), (by (with_reducible repeat (first | refine blk_drewN ?_ _ | refine blk_drew ?_ | refine blk_alloc ?_ _)); exact BK322.out), (by (with_reducible repeat (first | refine blk_drewN ?_ _ | refine blk_drew ?_ | refine blk_alloc ?_ _)); exact BK348.out), GW348.out, GE348.out, NB322_348.out, NB348_322.out, (by repeat (first | (with_reducible first | exact HB.out | apply below_alloc | apply pw_below_drewN | apply below_drew1 | refine below_set ?_ GE322.out | refine below_set ?_ GE348.out) | exact HB.out))⟩)
                    rintro ⟨v330, v338, v346, gb348⟩ w40 ⟨hS_, h0_, h1_, h2_, h3_, h4_, h5_, h6_, h7_, h8_, h9_, h10_⟩
                    have n0_ : Aside0 (Kd.V k40 40 w40 w.heap.size (fun k_ => some k_ ≠ (v346 : Value).ownBlock ∧ k_ ≠ gb322 ∧ k_ ≠ gb348) (.slice Ao11 y332.length co11) y332) := ⟨h0_⟩
                    have n1_ : Aside0 (Kd.V k40 40 w40 w.heap.size (fun k_ => some k_ ≠ (v346 : Value).ownBlock ∧ k_ ≠ gb322 ∧ k_ ≠ gb348) (.slice A33 y340.length c33) y340) := ⟨h1_⟩
                    have n2_ : Aside0 (Kd.N k40 40 w40 w.heap.size (fun k_ => k_ ≠ gb322 ∧ k_ ≠ gb348) v346 y345) := ⟨h2_⟩
                    have n3_ : Aside0 (Kd.N k40 40 w40 w.heap.size (fun k_ => some k_ ≠ (v346 : Value).ownBlock ∧ k_ ≠ gb322 ∧ k_ ≠ gb348) (.slice Ao11 t325.length co11) t325) := ⟨h3_⟩
                    have n4_ : Aside0 (w40.heap[gb322]? = some (.cells #[.int .i64 t324, .slice Ao11 t325.length co11] 24 (0, 0))) := ⟨h4_⟩
                    have n5_ : Aside0 (w40.heap[gb348]? = some (.cells #[.int .i64 0, .slice none 0 0] 24 (0, 0))) := ⟨h5_⟩
                    have n6_ : Aside0 (w.heap.size ≤ gb348) := ⟨h6_⟩
                    have n7_ : Aside0 (w.heap.size ≤ gb348) := ⟨h7_⟩
                    have n8_ : Aside0 (gb322 ≠ gb348) := ⟨h8_⟩
                    have n9_ : Aside0 (gb348 ≠ gb322) := ⟨h9_⟩
                    have n10_ : Aside0 (Below w.heap.size w w40) := ⟨h10_⟩
                    clear HO_323001
                    clear BK322
                    clear HB
                    clear h0_ h1_ h2_ h3_ h4_ h5_ h6_ h7_ h8_ h9_ h10_
                    have HO336 := n0_
                    have HO344 := n1_
                    have HO347 := n2_
                    have HO_323001 := n3_
                    have BK322 := n4_
                    have BK348 := n5_
                    have GW348 := n6_
                    have GE348 := n7_
                    have NB322_348 := n8_
                    have NB348_322 := n9_
                    have HB := n10_
                    clear n0_ n1_ n2_ n3_ n4_ n5_ n6_ n7_ n8_ n9_ n10_
                    have hHeld : w40.cell? ⟨gb322, 0, none⟩ = some (.int .i64 t324) ∧ w40.cell? ⟨gb322, 1, none⟩ = some (.slice Ao11 t325.length co11) := hS_
                    obtain ⟨Ao41, co41, eo41⟩ := Kd.N_slice HO347.out
                    (first | subst eo41 | (injection eo41 with f1_ f2_ f3_; have f4_ := f1_.symm; have f5_ := f3_.symm; clear f1_ f2_ f3_; subst f4_; subst f5_))
                    refine norm_ (a' := ?_) ?_ ?_
                    rotate_left
                    · simp only [putAll, Act.put, List.setIfInBounds_toArray, List.set_cons_zero, List.set_cons_succ]
                      rfl
                    refine one_ (i := 16) (N := none) #[true, true, true, true, true, true, true, true, true, true, true, true, true, true, true, true, true] rfl rfl (one_of HT_.out (by kernel_rfl)) (by decide) (fun K hK => ?_)
                    have hs42 : w40.cell? ⟨gb348, 0, none⟩ = some (.int .i64 0) := (blk_cell BK348.out 0).trans rfl
                    have hfs42 := blk_frozen BK348.out 0
                    have hns42_0 := NB322_348.out
                    have hms42_0 := NB348_322.out
                    have hs43 : w40.cell? ⟨gb348, 1, none⟩ = some (.slice none 0 0) := (blk_cell BK348.out 1).trans rfl
                    have hfs43 := blk_frozen BK348.out 1
                    have hns43_0 := NB322_348.out
                    have hms43_0 := NB348_322.out
                    refine skip_ (w1 := ?_) (by rfl) rfl ?_ ?_
                    rotate_left
                    · go_simp
                      rfl
                    refine hK.out _ _ ⟨((cell_far (p := ⟨gb348, _, none⟩) NB322_348.out _).trans (((cell_far (p := ⟨gb348, _, none⟩) NB322_348.out _).trans (hHeld.1)))), ((cell_far (p := ⟨gb348, _, none⟩) NB322_348.out _).trans (((cell_far (p := ⟨gb348, _, none⟩) NB322_348.out _).trans (hHeld.2))))⟩ (fun hHeld => ?_)
                    clear hK K
                    refine done_ (done_of HT_.out (by kernel_rfl)) ?_
                    have hnb44 := NB348_322.out
                    have hnc44 := NB322_348.out
                    have hcz45_0 : w40.cell? ⟨gb348, 0, none⟩ = some (.int .i64 0) := (blk_cell BK348.out 0).trans rfl
                    have hcz45_1 : w40.cell? ⟨gb348, 1, none⟩ = some (.slice none 0 0) := (blk_cell BK348.out 1).trans rfl
                    have hfz45_0 := blk_frozen BK348.out 0
                    have hfz45_1 := blk_frozen BK348.out 1
                    go_upto_if 44 with (fail)
                    go_cut [7] (fun v7 wc => ∃ (kq : Nat) (x7_29 : Int), v7 = .int .i64 x7_29 ∧ Aside0 (registrarlaw10_BatchParts.j1 kq t323 x7_29 t324 t325 t324 y345 = some r) ∧ Aside0 (kq ≤ kj4) ∧ Aside0 (Kd.N k40 40 wc w.heap.size (fun k_ => some k_ ≠ ((.slice Ao41 y345.length co41) : Value).ownBlock ∧ k_ ≠ gb322 ∧ k_ ≠ gb348) (.slice Ao11 t325.length co11) t325) ∧ Aside0 (Kd.N k40 40 wc w.heap.size (fun k_ => k_ ≠ gb322 ∧ k_ ≠ gb348) (.slice Ao41 y345.length co41) y345) ∧ Aside0 (wc.heap[gb322]? = some (.cells #[.int .i64 t324, (.slice Ao11 t325.length co11)] 24 (0, 0))) ∧ Aside0 (wc.heap[gb348]? = some (.cells #[.int .i64 t324, (.slice Ao41 y345.length co41)] 24 (0, 0))) ∧ Aside0 (Below w.heap.size w wc))
                    case first =>
                      have H := HC30.out
                      clear HC30
                      by_cases c46 : (y345.length : Int) = 0
                      · rw [if_pos c46] at H
                        have c46b0 : ((y345.length : Int) == 0) = true := beq_iff_eq.mpr c46
                        have c46b1 : ((y345.length : Int) != 0) = false := bne_eq_false_iff_eq.mpr c46
                        clear c46
                        (first | rw [c46b0] | (simp only [i64_w, i32_w]; rw [c46b0]) | skip)
                        have H' := Aside0.mk H
                        clear H
                        go_wp2
                        go_meet
                        case rel => exact ⟨_, (22), (by first | rfl | (simp; done) | (simp [*]; done)), H', ⟨by have := HJ4.out; first | omega | exact Nat.le_refl _⟩, ⟨by (with_reducible repeat (first | apply Kd.N_alloc | apply Kd.N_drewN | apply Kd.N_drew)); exact Kd.N_mono (Kd.N_far (p := ⟨gb348, 1, none⟩) (Kd.N_far (p := ⟨gb348, 0, none⟩) (Kd.N_mono HO_323001.out (fun k_ hk => (⟨hk, hk.2.2⟩ : _ ∧ k_ ≠ gb348))) (fun _ hk => hk.2) (.int .i64 t324)) (fun _ hk => hk.2) (.slice Ao41 y345.length co41)) (fun _ hk => ⟨hk.1.1, ⟨hk.1.2.1, hk.1.2.2⟩⟩)⟩, ⟨by (with_reducible repeat (first | apply Kd.N_alloc | apply Kd.N_drewN | apply Kd.N_drew)); exact Kd.N_mono (Kd.N_far (p := ⟨gb348, 1, none⟩) (Kd.N_far (p := ⟨gb348, 0, none⟩) (Kd.N_mono HO347.out (fun k_ hk => (⟨hk, hk.2⟩ : _ ∧ k_ ≠ gb348))) (fun _ hk => hk.2) (.int .i64 t324)) (fun _ hk => hk.2) (.slice Ao41 y345.length co41)) (fun _ hk => ⟨hk.1.1, hk.1.2⟩)⟩, ⟨by (with_reducible repeat (first | refine blk_drewN ?_ _ | refine blk_drew ?_ | refine blk_alloc ?_ _)); refine blk_far ?_ NB322_348.out _; (with_reducible repeat (first | refine blk_drewN ?_ _ | refine blk_drew ?_ | refine blk_alloc ?_ _)); refine blk_far ?_ NB322_348.out _; (with_reducible repeat (first | refine blk_drewN ?_ _ | refine blk_drew ?_ | refine blk_alloc ?_ _)); exact BK322.out⟩, ⟨by (with_reducible repeat (first | refine blk_drewN ?_ _ | refine blk_drew ?_ | refine blk_alloc ?_ _)); refine blk_put (cs := #[.int .i64 t324, .slice none 0 0]) ?_ 1 _ rfl; (with_reducible repeat (first | refine blk_drewN ?_ _ | refine blk_drew ?_ | refine blk_alloc ?_ _)); refine blk_put (cs := #[.int .i64 0, .slice none 0 0]) ?_ 0 _ rfl; (with_reducible repeat (first | refine blk_drewN ?_ _ | refine blk_drew ?_ | refine blk_alloc ?_ _)); exact BK348.out⟩, ⟨by repeat (first | (with_reducible first | exact HB.out | apply below_alloc | apply pw_below_drewN | apply below_drew1 | refine below_set ?_ GE322.out | refine below_set ?_ GE348.out) | exact HB.out)⟩⟩
                      · rw [if_neg c46] at H
                        have c46b0 : ((y345.length : Int) == 0) = false := beq_eq_false_iff_ne.mpr c46
                        have c46b1 : ((y345.length : Int) != 0) = true := bne_iff_ne.mpr c46
                        have c46b2 : ¬ (y345 = []) := fun h_ => c46 (by rw [h_]; rfl)
                        (first | rw [c46b0] | (simp only [i64_w, i32_w]; rw [c46b0]) | skip)
                        have H' := Aside0.mk H
                        clear H
                        go_wp2
                        go_meet
                        case rel => exact ⟨_, (0), (by first | rfl | (simp; done) | (simp [*]; done)), H', ⟨by have := HJ4.out; first | omega | exact Nat.le_refl _⟩, ⟨by (with_reducible repeat (first | apply Kd.N_alloc | apply Kd.N_drewN | apply Kd.N_drew)); exact Kd.N_mono (Kd.N_far (p := ⟨gb348, 1, none⟩) (Kd.N_far (p := ⟨gb348, 0, none⟩) (Kd.N_mono HO_323001.out (fun k_ hk => (⟨hk, hk.2.2⟩ : _ ∧ k_ ≠ gb348))) (fun _ hk => hk.2) (.int .i64 t324)) (fun _ hk => hk.2) (.slice Ao41 y345.length co41)) (fun _ hk => ⟨hk.1.1, ⟨hk.1.2.1, hk.1.2.2⟩⟩)⟩, ⟨by (with_reducible repeat (first | apply Kd.N_alloc | apply Kd.N_drewN | apply Kd.N_drew)); exact Kd.N_mono (Kd.N_far (p := ⟨gb348, 1, none⟩) (Kd.N_far (p := ⟨gb348, 0, none⟩) (Kd.N_mono HO347.out (fun k_ hk => (⟨hk, hk.2⟩ : _ ∧ k_ ≠ gb348))) (fun _ hk => hk.2) (.int .i64 t324)) (fun _ hk => hk.2) (.slice Ao41 y345.length co41)) (fun _ hk => ⟨hk.1.1, hk.1.2⟩)⟩, ⟨by (with_reducible repeat (first | refine blk_drewN ?_ _ | refine blk_drew ?_ | refine blk_alloc ?_ _)); refine blk_far ?_ NB322_348.out _; (with_reducible repeat (first | refine blk_drewN ?_ _ | refine blk_drew ?_ | refine blk_alloc ?_ _)); refine blk_far ?_ NB322_348.out _; (with_reducible repeat (first | refine blk_drewN ?_ _ | refine blk_drew ?_ | refine blk_alloc ?_ _)); exact BK322.out⟩, ⟨by (with_reducible repeat (first | refine blk_drewN ?_ _ | refine blk_drew ?_ | refine blk_alloc ?_ _)); refine blk_put (cs := #[.int .i64 t324, .slice none 0 0]) ?_ 1 _ rfl; (with_reducible repeat (first | refine blk_drewN ?_ _ | refine blk_drew ?_ | refine blk_alloc ?_ _)); refine blk_put (cs := #[.int .i64 0, .slice none 0 0]) ?_ 0 _ rfl; (with_reducible repeat (first | refine blk_drewN ?_ _ | refine blk_drew ?_ | refine blk_alloc ?_ _)); exact BK348.out⟩, ⟨by repeat (first | (with_reducible first | exact HB.out | apply below_alloc | apply pw_below_drewN | apply below_drew1 | refine below_set ?_ GE322.out | refine below_set ?_ GE348.out) | exact HB.out)⟩⟩
                    case rest =>
                      clear HC30
                      try clear c2
                      try clear p2
                      try clear c3
                      try clear c4
                      try clear c25
                      try clear c29
                      try clear c33
                      try clear c44
                      try clear c46
                      try clear c46b0
                      try clear c46b1
                      try clear c46b2
                      try clear hcz45_0
                      try clear hcz45_1
                      try clear hfz45_0
                      try clear hfz45_1
                      obtain ⟨kq, x7_29, rfl, HA, HJ29, HO_323001, HO_349001, BK322, BK348, HB⟩ := hcut
                      cases kq with
                      | zero => exact absurd HA.out (by simp [registrarlaw10_BatchParts.j1])
                      | succ kj29 =>
                        have H := HA.out
                        clear HA
                        simp only [registrarlaw10_BatchParts.j1] at H
                        by_cases c47 : t323 = true
                        · subst c47
                          have H1 : ((batch_May.f t324 y345).bind fun t349 => (if t349 = x7_29 then ((batch_May.f (-1) t325).bind fun t350 => (if t350 = 1 then ((batch_May.f 1048576 t325).bind fun t351 => (some (t351 == 1))) else (some false))) else (some false))) = some r := by rw [if_pos rfl] at H; exact H
                          clear H
                          have H := H1
                          clear H1
                          replace H := Option.bind_eq_some_iff.mp H
                          obtain ⟨t349, A480, H⟩ := H
                          replace H : (if t349 = x7_29 then ((batch_May.f (-1) t325).bind fun t350 => (if t350 = 1 then ((batch_May.f 1048576 t325).bind fun t351 => (some (t351 == 1))) else (some false))) else (some false)) = some r := H
                          have A48 := Aside0.mk A480
                          clear A480
                          by_cases c49 : t349 = x7_29
                          · rw [if_pos c49] at H
                            have c49b0 : (t349 == x7_29) = true := beq_iff_eq.mpr c49
                            have c49b1 : (t349 != x7_29) = false := bne_eq_false_iff_eq.mpr c49
                            clear c49
                            replace H := Option.bind_eq_some_iff.mp H
                            obtain ⟨t350, A500, H⟩ := H
                            replace H : (if t350 = 1 then ((batch_May.f 1048576 t325).bind fun t351 => (some (t351 == 1))) else (some false)) = some r := H
                            have A50 := Aside0.mk A500
                            clear A500
                            by_cases c51 : t350 = 1
                            · rw [if_pos c51] at H
                              have c51b0 : (t350 == 1) = true := beq_iff_eq.mpr c51
                              have c51b1 : (t350 != 1) = false := bne_eq_false_iff_eq.mpr c51
                              clear c51
                              replace H := Option.bind_eq_some_iff.mp H
                              obtain ⟨t351, A520, H⟩ := H
                              replace H : (some (t351 == 1)) = some r := H
                              have A52 := Aside0.mk A520
                              clear A520
                              obtain rfl := Option.some.inj H
                              have hnb53 := NB348_322.out
                              have hnc53 := NB322_348.out
                              have hcz54_0 : wc.cell? ⟨gb348, 0, none⟩ = some (.int .i64 t324) := (blk_cell BK348.out 0).trans rfl
                              have hcz54_1 : wc.cell? ⟨gb348, 1, none⟩ = some (.slice Ao41 y345.length co41) := (blk_cell BK348.out 1).trans rfl
                              have hfz54_0 := blk_frozen BK348.out 0
                              have hfz54_1 := blk_frozen BK348.out 1
                              go_wp2_with (first | (go_at_call 13; (with_reducible refine (batch_May.calls t324 _ _ y345 t349 _ ?side1 ?side2 A48.out).mono ?_); (case side1 => repeat (first | exact (Kd.N_reads' HO_349001.out).2.2 | (with_reducible refine Kd.C_alloc ?_ _) | (with_reducible refine Kd.C_drewN ?_ _) | (with_reducible refine Kd.C_drew ?_))); (case side2 => exact (Kd.N_reads' HO_349001.out).2.1); rintro e w55 ⟨rfl, hb⟩; have n0_ := Aside0.mk (Kd.N_below (by (with_reducible repeat (first | apply Kd.N_alloc | apply Kd.N_drewN | apply Kd.N_drew)); exact HO_323001.out) hb); have n1_ := Aside0.mk (Kd.N_below (by (with_reducible repeat (first | apply Kd.N_alloc | apply Kd.N_drewN | apply Kd.N_drew)); exact HO_349001.out) hb); have n2_ := Aside0.mk (blk_below (g := gb322) (o := .cells #[.int .i64 t324, .slice Ao11 t325.length co11] 24 (0, 0)) (by (with_reducible repeat (first | refine blk_drewN ?_ _ | refine blk_drew ?_ | refine blk_alloc ?_ _)); exact BK322.out) hb); have n3_ := Aside0.mk (blk_below (g := gb348) (o := .cells #[.int .i64 t324, .slice Ao41 y345.length co41] 24 (0, 0)) (by (with_reducible repeat (first | refine blk_drewN ?_ _ | refine blk_drew ?_ | refine blk_alloc ?_ _)); exact BK348.out) hb); have n4_ := Aside0.mk (below_step (by repeat (first | (with_reducible first | exact HB.out | apply below_alloc | apply pw_below_drewN | apply below_drew1 | refine below_set ?_ GE322.out | refine below_set ?_ GE348.out) | exact HB.out)) hb); clear HO_323001; clear HO_349001; clear BK322; clear BK348; clear HB; have HO_323001 := n0_; have HO_349001 := n1_; have BK322 := n2_; have BK348 := n3_; have HB := n4_; clear n0_ n1_ n2_ n3_ n4_; (try clear hb); (try clear hb2); (try clear hk); (try clear hi); have hcz56_0 : w55.cell? ⟨gb322, 0, none⟩ = some (.int .i64 t324) := (blk_cell BK322.out 0).trans rfl; have hcz56_1 : w55.cell? ⟨gb322, 1, none⟩ = some (.slice Ao11 t325.length co11) := (blk_cell BK322.out 1).trans rfl; have hfz56_0 := blk_frozen BK322.out 0; have hfz56_1 := blk_frozen BK322.out 1) | (go_at_call 13; (with_reducible refine (batch_May.calls (-1) _ _ t325 t350 _ ?side1 ?side2 A50.out).mono ?_); (case side1 => repeat (first | exact (Kd.N_reads' HO_323001.out).2.2 | (with_reducible refine Kd.C_alloc ?_ _) | (with_reducible refine Kd.C_drewN ?_ _) | (with_reducible refine Kd.C_drew ?_))); (case side2 => exact (Kd.N_reads' HO_323001.out).2.1); rintro e w57 ⟨rfl, hb⟩; have n0_ := Aside0.mk (Kd.N_below (by (with_reducible repeat (first | apply Kd.N_alloc | apply Kd.N_drewN | apply Kd.N_drew)); exact HO_323001.out) hb); have n1_ := Aside0.mk (Kd.N_below (by (with_reducible repeat (first | apply Kd.N_alloc | apply Kd.N_drewN | apply Kd.N_drew)); exact HO_349001.out) hb); have n2_ := Aside0.mk (blk_below (g := gb322) (o := .cells #[.int .i64 t324, .slice Ao11 t325.length co11] 24 (0, 0)) (by (with_reducible repeat (first | refine blk_drewN ?_ _ | refine blk_drew ?_ | refine blk_alloc ?_ _)); exact BK322.out) hb); have n3_ := Aside0.mk (blk_below (g := gb348) (o := .cells #[.int .i64 t324, .slice Ao41 y345.length co41] 24 (0, 0)) (by (with_reducible repeat (first | refine blk_drewN ?_ _ | refine blk_drew ?_ | refine blk_alloc ?_ _)); exact BK348.out) hb); have n4_ := Aside0.mk (below_step (by repeat (first | (with_reducible first | exact HB.out | apply below_alloc | apply pw_below_drewN | apply below_drew1 | refine below_set ?_ GE322.out | refine below_set ?_ GE348.out) | exact HB.out)) hb); clear HO_323001; clear HO_349001; clear BK322; clear BK348; clear HB; have HO_323001 := n0_; have HO_349001 := n1_; have BK322 := n2_; have BK348 := n3_; have HB := n4_; clear n0_ n1_ n2_ n3_ n4_; (try clear hb); (try clear hb2); (try clear hk); (try clear hi); have hcz58_0 : w57.cell? ⟨gb322, 0, none⟩ = some (.int .i64 t324) := (blk_cell BK322.out 0).trans rfl; have hcz58_1 : w57.cell? ⟨gb322, 1, none⟩ = some (.slice Ao11 t325.length co11) := (blk_cell BK322.out 1).trans rfl; have hfz58_0 := blk_frozen BK322.out 0; have hfz58_1 := blk_frozen BK322.out 1) | (go_at_call 13; (with_reducible refine (batch_May.calls 1048576 _ _ t325 t351 _ ?side1 ?side2 A52.out).mono ?_); (case side1 => repeat (first | exact (Kd.N_reads' HO_323001.out).2.2 | (with_reducible refine Kd.C_alloc ?_ _) | (with_reducible refine Kd.C_drewN ?_ _) | (with_reducible refine Kd.C_drew ?_))); (case side2 => exact (Kd.N_reads' HO_323001.out).2.1); rintro e w59 ⟨rfl, hb⟩; have n0_ := Aside0.mk (Kd.N_below (by (with_reducible repeat (first | apply Kd.N_alloc | apply Kd.N_drewN | apply Kd.N_drew)); exact HO_323001.out) hb); have n1_ := Aside0.mk (Kd.N_below (by (with_reducible repeat (first | apply Kd.N_alloc | apply Kd.N_drewN | apply Kd.N_drew)); exact HO_349001.out) hb); have n2_ := Aside0.mk (blk_below (g := gb322) (o := .cells #[.int .i64 t324, .slice Ao11 t325.length co11] 24 (0, 0)) (by (with_reducible repeat (first | refine blk_drewN ?_ _ | refine blk_drew ?_ | refine blk_alloc ?_ _)); exact BK322.out) hb); have n3_ := Aside0.mk (blk_below (g := gb348) (o := .cells #[.int .i64 t324, .slice Ao41 y345.length co41] 24 (0, 0)) (by (with_reducible repeat (first | refine blk_drewN ?_ _ | refine blk_drew ?_ | refine blk_alloc ?_ _)); exact BK348.out) hb); have n4_ := Aside0.mk (below_step (by repeat (first | (with_reducible first | exact HB.out | apply below_alloc | apply pw_below_drewN | apply below_drew1 | refine below_set ?_ GE322.out | refine below_set ?_ GE348.out) | exact HB.out)) hb); clear HO_323001; clear HO_349001; clear BK322; clear BK348; clear HB; have HO_323001 := n0_; have HO_349001 := n1_; have BK322 := n2_; have BK348 := n3_; have HB := n4_; clear n0_ n1_ n2_ n3_ n4_; (try clear hb); (try clear hb2); (try clear hk); (try clear hi)))
                              go_ret
                              exact ⟨by first | rfl | (simp [errW_none, errW_some] <;> rfl) | (simp only [← hji26]; first | rfl | (simp [errW_none, errW_some] <;> rfl)) | (simp [*, errW_none, errW_some] <;> rfl), by repeat (first | (with_reducible first | exact HB.out | apply below_alloc | apply pw_below_drewN | apply below_drew1 | refine below_set ?_ GE322.out | refine below_set ?_ GE348.out) | exact HB.out)⟩
                            · rw [if_neg c51] at H
                              have c51b0 : (t350 == 1) = false := beq_eq_false_iff_ne.mpr c51
                              have c51b1 : (t350 != 1) = true := bne_iff_ne.mpr c51
                              obtain rfl := Option.some.inj H
                              have hnb60 := NB348_322.out
                              have hnc60 := NB322_348.out
                              have hcz61_0 : wc.cell? ⟨gb348, 0, none⟩ = some (.int .i64 t324) := (blk_cell BK348.out 0).trans rfl
                              have hcz61_1 : wc.cell? ⟨gb348, 1, none⟩ = some (.slice Ao41 y345.length co41) := (blk_cell BK348.out 1).trans rfl
                              have hfz61_0 := blk_frozen BK348.out 0
                              have hfz61_1 := blk_frozen BK348.out 1
                              go_wp2_with (first | (go_at_call 13; (with_reducible refine (batch_May.calls t324 _ _ y345 t349 _ ?side1 ?side2 A48.out).mono ?_); (case side1 => repeat (first | exact (Kd.N_reads' HO_349001.out).2.2 | (with_reducible refine Kd.C_alloc ?_ _) | (with_reducible refine Kd.C_drewN ?_ _) | (with_reducible refine Kd.C_drew ?_))); (case side2 => exact (Kd.N_reads' HO_349001.out).2.1); rintro e w62 ⟨rfl, hb⟩; have n0_ := Aside0.mk (Kd.N_below (by (with_reducible repeat (first | apply Kd.N_alloc | apply Kd.N_drewN | apply Kd.N_drew)); exact HO_323001.out) hb); have n1_ := Aside0.mk (Kd.N_below (by (with_reducible repeat (first | apply Kd.N_alloc | apply Kd.N_drewN | apply Kd.N_drew)); exact HO_349001.out) hb); have n2_ := Aside0.mk (blk_below (g := gb322) (o := .cells #[.int .i64 t324, .slice Ao11 t325.length co11] 24 (0, 0)) (by (with_reducible repeat (first | refine blk_drewN ?_ _ | refine blk_drew ?_ | refine blk_alloc ?_ _)); exact BK322.out) hb); have n3_ := Aside0.mk (blk_below (g := gb348) (o := .cells #[.int .i64 t324, .slice Ao41 y345.length co41] 24 (0, 0)) (by (with_reducible repeat (first | refine blk_drewN ?_ _ | refine blk_drew ?_ | refine blk_alloc ?_ _)); exact BK348.out) hb); have n4_ := Aside0.mk (below_step (by repeat (first | (with_reducible first | exact HB.out | apply below_alloc | apply pw_below_drewN | apply below_drew1 | refine below_set ?_ GE322.out | refine below_set ?_ GE348.out) | exact HB.out)) hb); clear HO_323001; clear HO_349001; clear BK322; clear BK348; clear HB; have HO_323001 := n0_; have HO_349001 := n1_; have BK322 := n2_; have BK348 := n3_; have HB := n4_; clear n0_ n1_ n2_ n3_ n4_; (try clear hb); (try clear hb2); (try clear hk); (try clear hi); have hcz63_0 : w62.cell? ⟨gb322, 0, none⟩ = some (.int .i64 t324) := (blk_cell BK322.out 0).trans rfl; have hcz63_1 : w62.cell? ⟨gb322, 1, none⟩ = some (.slice Ao11 t325.length co11) := (blk_cell BK322.out 1).trans rfl; have hfz63_0 := blk_frozen BK322.out 0; have hfz63_1 := blk_frozen BK322.out 1) | (go_at_call 13; (with_reducible refine (batch_May.calls (-1) _ _ t325 t350 _ ?side1 ?side2 A50.out).mono ?_); (case side1 => repeat (first | exact (Kd.N_reads' HO_323001.out).2.2 | (with_reducible refine Kd.C_alloc ?_ _) | (with_reducible refine Kd.C_drewN ?_ _) | (with_reducible refine Kd.C_drew ?_))); (case side2 => exact (Kd.N_reads' HO_323001.out).2.1); rintro e w64 ⟨rfl, hb⟩; have n0_ := Aside0.mk (Kd.N_below (by (with_reducible repeat (first | apply Kd.N_alloc | apply Kd.N_drewN | apply Kd.N_drew)); exact HO_323001.out) hb); have n1_ := Aside0.mk (Kd.N_below (by (with_reducible repeat (first | apply Kd.N_alloc | apply Kd.N_drewN | apply Kd.N_drew)); exact HO_349001.out) hb); have n2_ := Aside0.mk (blk_below (g := gb322) (o := .cells #[.int .i64 t324, .slice Ao11 t325.length co11] 24 (0, 0)) (by (with_reducible repeat (first | refine blk_drewN ?_ _ | refine blk_drew ?_ | refine blk_alloc ?_ _)); exact BK322.out) hb); have n3_ := Aside0.mk (blk_below (g := gb348) (o := .cells #[.int .i64 t324, .slice Ao41 y345.length co41] 24 (0, 0)) (by (with_reducible repeat (first | refine blk_drewN ?_ _ | refine blk_drew ?_ | refine blk_alloc ?_ _)); exact BK348.out) hb); have n4_ := Aside0.mk (below_step (by repeat (first | (with_reducible first | exact HB.out | apply below_alloc | apply pw_below_drewN | apply below_drew1 | refine below_set ?_ GE322.out | refine below_set ?_ GE348.out) | exact HB.out)) hb); clear HO_323001; clear HO_349001; clear BK322; clear BK348; clear HB; have HO_323001 := n0_; have HO_349001 := n1_; have BK322 := n2_; have BK348 := n3_; have HB := n4_; clear n0_ n1_ n2_ n3_ n4_; (try clear hb); (try clear hb2); (try clear hk); (try clear hi)))
                              go_ret
                              exact ⟨by first | rfl | (simp [errW_none, errW_some] <;> rfl) | (simp only [← hji26]; first | rfl | (simp [errW_none, errW_some] <;> rfl)) | (simp [*, errW_none, errW_some] <;> rfl), by repeat (first | (with_reducible first | exact HB.out | apply below_alloc | apply pw_below_drewN | apply below_drew1 | refine below_set ?_ GE322.out | refine below_set ?_ GE348.out) | exact HB.out)⟩
                          · rw [if_neg c49] at H
                            have c49b0 : (t349 == x7_29) = false := beq_eq_false_iff_ne.mpr c49
                            have c49b1 : (t349 != x7_29) = true := bne_iff_ne.mpr c49
                            obtain rfl := Option.some.inj H
                            have hnb65 := NB348_322.out
                            have hnc65 := NB322_348.out
                            have hcz66_0 : wc.cell? ⟨gb348, 0, none⟩ = some (.int .i64 t324) := (blk_cell BK348.out 0).trans rfl
                            have hcz66_1 : wc.cell? ⟨gb348, 1, none⟩ = some (.slice Ao41 y345.length co41) := (blk_cell BK348.out 1).trans rfl
                            have hfz66_0 := blk_frozen BK348.out 0
                            have hfz66_1 := blk_frozen BK348.out 1
                            go_wp2_with (first | (go_at_call 13; (with_reducible refine (batch_May.calls t324 _ _ y345 t349 _ ?side1 ?side2 A48.out).mono ?_); (case side1 => repeat (first | exact (Kd.N_reads' HO_349001.out).2.2 | (with_reducible refine Kd.C_alloc ?_ _) | (with_reducible refine Kd.C_drewN ?_ _) | (with_reducible refine Kd.C_drew ?_))); (case side2 => exact (Kd.N_reads' HO_349001.out).2.1); rintro e w67 ⟨rfl, hb⟩; have n0_ := Aside0.mk (Kd.N_below (by (with_reducible repeat (first | apply Kd.N_alloc | apply Kd.N_drewN | apply Kd.N_drew)); exact HO_323001.out) hb); have n1_ := Aside0.mk (Kd.N_below (by (with_reducible repeat (first | apply Kd.N_alloc | apply Kd.N_drewN | apply Kd.N_drew)); exact HO_349001.out) hb); have n2_ := Aside0.mk (blk_below (g := gb322) (o := .cells #[.int .i64 t324, .slice Ao11 t325.length co11] 24 (0, 0)) (by (with_reducible repeat (first | refine blk_drewN ?_ _ | refine blk_drew ?_ | refine blk_alloc ?_ _)); exact BK322.out) hb); have n3_ := Aside0.mk (blk_below (g := gb348) (o := .cells #[.int .i64 t324, .slice Ao41 y345.length co41] 24 (0, 0)) (by (with_reducible repeat (first | refine blk_drewN ?_ _ | refine blk_drew ?_ | refine blk_alloc ?_ _)); exact BK348.out) hb); have n4_ := Aside0.mk (below_step (by repeat (first | (with_reducible first | exact HB.out | apply below_alloc | apply pw_below_drewN | apply below_drew1 | refine below_set ?_ GE322.out | refine below_set ?_ GE348.out) | exact HB.out)) hb); clear HO_323001; clear HO_349001; clear BK322; clear BK348; clear HB; have HO_323001 := n0_; have HO_349001 := n1_; have BK322 := n2_; have BK348 := n3_; have HB := n4_; clear n0_ n1_ n2_ n3_ n4_; (try clear hb); (try clear hb2); (try clear hk); (try clear hi)))
                            go_ret
                            exact ⟨by first | rfl | (simp [errW_none, errW_some] <;> rfl) | (simp only [← hji26]; first | rfl | (simp [errW_none, errW_some] <;> rfl)) | (simp [*, errW_none, errW_some] <;> rfl), by repeat (first | (with_reducible first | exact HB.out | apply below_alloc | apply pw_below_drewN | apply below_drew1 | refine below_set ?_ GE322.out | refine below_set ?_ GE348.out) | exact HB.out)⟩
                        · replace c47 := Bool.eq_false_iff.mpr c47
                          subst c47
                          have H1 : (some false) = some r := by rw [if_neg (show ¬ (false = true) by decide)] at H; exact H
                          clear H
                          have H := H1
                          clear H1
                          obtain rfl := Option.some.inj H
                          go_wp2
                          go_ret
                          exact ⟨by first | rfl | (simp [errW_none, errW_some] <;> rfl) | (simp only [← hji26]; first | rfl | (simp [errW_none, errW_some] <;> rfl)) | (simp [*, errW_none, errW_some] <;> rfl), by repeat (first | (with_reducible first | exact HB.out | apply below_alloc | apply pw_below_drewN | apply below_drew1 | refine below_set ?_ GE322.out | refine below_set ?_ GE348.out) | exact HB.out)⟩
                  · rw [if_neg c29] at H
                    exact absurd H (by simp)
                · rw [if_neg c28] at H
                  exact absurd H (by simp)
              · rw [if_neg c27] at H
                exact absurd H (by simp)
            · rw [if_neg c25] at H
              exact absurd H (by simp)
          · rw [if_neg c24] at H
            exact absurd H (by simp)
        · rw [if_neg c23] at H
          exact absurd H (by simp)

end Go.Proofs.Ytafeakcajhhkoaa.Prt
namespace Go.Proofs.Ytafeakcajhhkoaa.Prt
open Go.RowKit Go.Proofs.YtafeakcajhhkoaaW.PrintWords Go.Proofs.YtafeakcajhhkoaaW.PrintLast Go.Proofs.YtafeakcajhhkoaaW.PrintMore Go.Proofs.Ytafeakcajhhkoaa.Num Go.Proofs.Ytafeakcajhhkoaa.Nam
set_option linter.unusedVariables false
set_option linter.unusedSimpArgs false

theorem parts_less {a : Int} {l : List S40} (h : OkB a l) (n : Nat) (hn : n < l.length) : mayB a (l.take n ++ l.drop (n + 1)) = if (l.take n ++ l.drop (n + 1)).length = 0 then 22 else 0 := by
  have hl : (l.take n ++ l.drop (n + 1)).length = l.length - 1 := by rw [List.length_append, List.length_take, List.length_drop]; omega
  have h16 := h.h16
  have h1 := h.h1
  have h0 := h.h0
  have hm := h.hm
  by_cases c : (l.take n ++ l.drop (n + 1)).length = 0
  · rw [if_pos c]; unfold mayB; rw [if_pos c]
  · rw [if_neg c]
    refine mayB_zero.2 ⟨by omega, by omega, fun x hx => ?_, h0, by rw [hl]; omega⟩
    rcases List.mem_append.1 hx with hx | hx
    · exact h.ho x (List.mem_of_mem_take hx)
    · exact h.ho x (List.mem_of_mem_drop hx)
theorem parts_arg {a : Int} {l : List S40} (h : OkB a l) (b : Int) (hb : b < 0 ∨ 1048576 - (l.length : Int) < b) : mayB b l = 1 := by
  have h16 := h.h16
  have h1 := h.h1
  unfold mayB
  rw [if_neg (by omega), if_neg (by omega), if_neg (by rw [firstE_zero.2 h.ho]; simp), if_pos hb]
theorem parts_j1 (k : Nat) {a : Int} {l : List S40} (h : OkB a l) (n : Nat) (hn : n < l.length) (v : Int) (hv : v = if (l.take n ++ l.drop (n + 1)).length = 0 then 22 else 0) : registrarlaw10_BatchParts.j1 (k + 1) true v a l a (l.take n ++ l.drop (n + 1)) = some true := by
  have f1 : (l.take n ++ l.drop (n + 1)).all fitX = true := List.all_eq_true.2 fun x hx => by
    rcases List.mem_append.1 hx with hx | hx
    · exact (h.ho x (List.mem_of_mem_take hx)).fit.1
    · exact (h.ho x (List.mem_of_mem_drop hx)).fit.1
  have m1 : batch_May.f a (l.take n ++ l.drop (n + 1)) = some v := by rw [hv, ← parts_less h n hn]; exact if_pos f1
  have m2 : batch_May.f (-1) l = some 1 := (if_pos h.fit : batch_May.f (-1) l = some (mayB (-1) l)).trans (congrArg some (parts_arg h (-1) (by omega)))
  have m3 : batch_May.f 1048576 l = some 1 := (if_pos h.fit : batch_May.f 1048576 l = some (mayB 1048576 l)).trans (congrArg some (parts_arg h 1048576 (by have := h.h1; omega)))
  rw [registrarlaw10_BatchParts.j1, if_pos rfl, m1]
  simp only [Option.bind_some, if_true]
  rw [m2]
  simp only [Option.bind_some, if_true]
  rw [m3]; rfl
theorem parts_j0 (k : Nat) {a : Int} {l : List S40} (h : OkB a l) (n : Nat) (hn : n < l.length) : registrarlaw10_BatchParts.j0 (k + 2) (n : Int) true false a l = some true := by
  have h16 := h.h16
  have e1 : wrap64 ((n : Int) + 1) = ((n + 1 : Nat) : Int) := succW n (by omega)
  rw [registrarlaw10_BatchParts.j0, if_neg (by simp), e1]
  simp only [Option.bind_some, Int.toNat_natCast, List.nil_append, List.length_nil]
  rw [if_pos (by omega), if_pos (by omega), if_pos (by rw [List.length_take]; omega), if_pos (by omega), if_pos (by omega), if_pos (by rw [List.length_take, List.length_drop]; omega)]
  by_cases c : (l.take n ++ l.drop (n + 1)).length = 0
  · rw [if_pos (by omega)]
    exact parts_j1 k h n hn 22 (by rw [if_pos c])
  · rw [if_neg (by omega)]
    exact parts_j1 k h n hn 0 (by rw [if_neg c])
theorem batchParts_true (a : Int) (l : List S40) (i : Int) (hf : FitsB l) : registrarlaw10_BatchParts.f 60 a l i = some true := by
  have m1 : batch_May.f a (fewL l) = some (mayB a (fewL l)) := if_pos (fewL_fit hf)
  unfold registrarlaw10_BatchParts.f
  rw [shown10, few10 (by omega)]
  simp only [Option.bind_some]
  rw [m1]
  simp only [Option.bind_some]
  by_cases h0 : mayB a (fewL l) = 0
  · have ok := mayB_zero.1 h0
    rw [if_pos h0]
    by_cases c1 : i < 0
    · rw [if_pos c1, registrarlaw10_BatchParts.j0, if_pos rfl]
    · rw [if_neg c1]
      by_cases c2 : i ≥ ((fewL l).length : Int)
      · rw [decide_eq_true c2, registrarlaw10_BatchParts.j0, if_pos rfl]
      · rw [decide_eq_false c2]
        obtain ⟨n, rfl⟩ : ∃ n : Nat, i = (n : Int) := ⟨i.toNat, by omega⟩
        exact parts_j0 58 ok n (by omega)
  · rw [if_neg h0, registrarlaw10_BatchParts.j0, if_pos rfl]
end Go.Proofs.Ytafeakcajhhkoaa.Prt
namespace Go.Proofs.Ytafeakcajhhkoaa.Gen
open Go.RowKit Go.Proofs.YtafeakcajhhkoaaW.PrintWords Go.Proofs.YtafeakcajhhkoaaW.PrintLast Go.Proofs.YtafeakcajhhkoaaW.PrintMore
set_option linter.unusedVariables false
set_option linter.unusedSimpArgs false

theorem list_of {α : Type} {p : Nat → α → Prop} : ∀ n : Nat, (∀ i, i < n → ∃ x, p i x) → ∃ xs : List α, xs.length = n ∧ ∀ i x, xs[i]? = some x → p i x := by
  intro n
  induction n with
  | zero => exact fun _ => ⟨[], rfl, fun i x h => by simp at h⟩
  | succ n ih =>
    intro h
    obtain ⟨xs, h1, h2⟩ := ih (fun i hi => h i (by omega))
    obtain ⟨y, hy⟩ := h n (by omega)
    refine ⟨xs ++ [y], by simp [h1], fun i x hx => ?_⟩
    rcases Nat.lt_or_ge i xs.length with hi | hi
    · rw [List.getElem?_append_left hi] at hx; exact h2 i x hx
    · have hl := (List.getElem?_eq_some_iff.1 hx).1
      rw [List.length_append, List.length_singleton] at hl
      obtain rfl : i = xs.length := by omega
      rw [List.getElem?_append_right hi] at hx
      simp at hx
      subst hx
      rw [h1]; exact hy
/-- Whatever reads as data of type t stands as an x of kind k that is ok. -/
def Opens {α : Type} (P : Program) (t : TypeId) (k : Kd α) (ok : α → Prop) : Prop :=
  ∀ {H : Type} (enc : TypeId × Value → H) (w : World) (base : Nat) (spare : Nat → Bool) (held : Bool) (fuel : Nat) (cs : List Value) (y : DataW H × List MemPlace), DataW.trod enc P w base spare held fuel t cs = some y → ∃ x, k.K w x cs ∧ ok x
section
variable {P : Program} {t e : TypeId}
theorem opens_int {k : IntKind} (ht : P.underlying t = some (.int k)) : Opens P t (Kd.int k) (fun n => (Lit.int k n).wf = true) := by
  intro H enc w base spare held fuel cs y h
  obtain ⟨n, rfl, _, h2⟩ := DataW.trod_int ht h
  exact ⟨n, rfl, h2⟩
theorem opens_string (ht : P.underlying t = some .string) : Opens P t Kd.string (fun s => s.size ≤ maxLen) := by
  intro H enc w base spare held fuel cs y h
  obtain ⟨s, rfl, _, h2⟩ := DataW.trod_string ht h
  exact ⟨s, rfl, h2⟩
theorem opens_slice {α : Type} {k : Kd α} {ok : α → Prop} (ht : P.underlying t = some (.slice e)) (hc : P.cellsOf e = k.sz) (he : Opens P e k ok) : Opens P t (Kd.slice e k) (fun xs => ∀ x ∈ xs, ok x) := by
  intro H enc w base spare held fuel cs y h
  rcases DataW.trod_slice ht h with ⟨rfl, _⟩ | ⟨a, len, cap, elems, rest, n, _, rfl, _, hb, hl, hm, hlen, hel, _, _⟩
  · exact ⟨[], ⟨none, 0, rfl, Nat.le_refl _, Kd.C_nil _ _⟩, fun x hx => by simp at hx⟩
  · have key : ∀ i, i < len → ∃ x, (∃ c, c.length = k.sz ∧ k.K w x c ∧ ∀ j u, c[j]? = some u → w.cell? (a.add (i * k.sz + j)) = some u) ∧ ok x := by
      intro i hi
      have h1 := hel i hi
      have h2 : elems[i]? = some elems[i] := List.getElem?_eq_getElem (by omega)
      rw [h2] at h1
      obtain ⟨c, hcells, htrod⟩ := Option.bind_eq_some_iff.1 h1
      obtain ⟨x, hx, hok⟩ := he enc w base spare held n c _ htrod
      obtain ⟨_, hcl, hcc⟩ := World.cells?_some hcells
      refine ⟨x, ⟨c, by rw [hcl, hc], hx, fun j u hj => ?_⟩, hok⟩
      have hjl : j < P.cellsOf e := by rw [← hcl]; exact (List.getElem?_eq_some_iff.1 hj).1
      have h3 := hcc j hjl
      rw [hj, hc] at h3
      rw [← h3]
      congr 1
      exact (Go.Deep.add_add a (i * k.sz) j).symm
    obtain ⟨xs, hxl, hx⟩ := list_of len key
    refine ⟨xs, ⟨some a, cap, by rw [hxl], by rw [hxl]; exact hl, hxl ▸ rfl, by rw [hxl]; simp only [maxLen] at hm; omega, fun _ => ⟨a, rfl, fun j p hp => (hx j p hp).1⟩⟩, fun x hxm => ?_⟩
    obtain ⟨j, hj⟩ := List.mem_iff_getElem?.1 hxm
    exact (hx j x hj).2
end
end Go.Proofs.Ytafeakcajhhkoaa.Gen
namespace Go.Proofs.Ytafeakcajhhkoaa.Gen
open Go.RowKit Go.Proofs.YtafeakcajhhkoaaW.PrintWords Go.Proofs.YtafeakcajhhkoaaW.PrintLast Go.Proofs.YtafeakcajhhkoaaW.PrintMore Go.Proofs.Ytafeakcajhhkoaa.Prt
set_option linter.unusedVariables false
set_option linter.unusedSimpArgs false
theorem opens_str : Opens Try.prog 9 Kd.string (fun s => s.size ≤ maxLen) := opens_string Try.underlying9
theorem opens_i64 : Opens Try.prog 3 (Kd.int .i64) (fun n => (Lit.int .i64 n).wf = true) := opens_int Try.underlying3
theorem opens_strs : Opens Try.prog 37 (Kd.slice 9 Kd.string) (fun xs => ∀ x ∈ xs, x.size ≤ maxLen) := opens_slice Try.underlying37 (by kernel_rfl) opens_str
theorem opens_field : Opens Try.prog 50 k50 (fun x => x.f0.size ≤ maxLen ∧ (Lit.int .i64 x.f1).wf = true) := by
  intro H enc w base spare held fuel cs y h
  obtain ⟨xs, n, _, _, hl, hlen, hf⟩ := DataW.trod_struct Try.underlying50 h
  rw [show Try.prog.cellsOf 50 = 2 from by kernel_rfl] at hl
  have hlen' : xs.length = 2 := hlen
  have h0 := hf 0 _ rfl
  rw [List.getElem?_eq_getElem (l := xs) (i := 0) (by omega)] at h0
  replace h0 : DataW.trod enc Try.prog w base spare held n 9 ((cs.drop 0).take (Try.prog.cellsOf 9)) = some xs[0] := h0
  rw [show Try.prog.cellsOf 9 = 1 from by kernel_rfl] at h0
  obtain ⟨x0, K0, o0⟩ := opens_str enc w base spare held n _ _ h0
  have h1 := hf 1 _ rfl
  rw [List.getElem?_eq_getElem (l := xs) (i := 1) (by omega)] at h1
  replace h1 : DataW.trod enc Try.prog w base spare held n 3 ((cs.drop 1).take (Try.prog.cellsOf 3)) = some xs[1] := h1
  rw [show Try.prog.cellsOf 3 = 1 from by kernel_rfl] at h1
  obtain ⟨x1, K1, o1⟩ := opens_i64 enc w base spare held n _ _ h1
  have e : cs = (cs.drop 0).take 1 ++ ((cs.drop 1).take 1) := by
    have g0 : cs.drop 0 = (cs.drop 0).take 1 ++ cs.drop 1 := by rw [show cs.drop 1 = (cs.drop 0).drop 1 from by rw [List.drop_drop], List.take_append_drop]
    have g1 : cs.drop 1 = (cs.drop 1).take 1 ++ cs.drop 2 := by rw [show cs.drop 2 = (cs.drop 1).drop 1 from by rw [List.drop_drop], List.take_append_drop]
    have z : cs.drop 2 = [] := List.drop_eq_nil_of_le (by omega)
    rw [z, List.append_nil] at g1
    calc cs = cs.drop 0 := rfl
      _ = (cs.drop 0).take 1 ++ ((cs.drop 1).take 1) := by rw [← g1]; exact g0
  refine ⟨⟨x0, x1⟩, ?_, o0, o1⟩
  rw [e]
  exact ⟨_, _, rfl, K0, K1⟩
theorem opens_fields : Opens Try.prog 38 (Kd.slice 50 k50) (fun xs => ∀ x ∈ xs, x.f0.size ≤ maxLen ∧ (Lit.int .i64 x.f1).wf = true) := opens_slice Try.underlying38 (by kernel_rfl) opens_field
theorem opens_event : Opens Try.prog 40 k40 (fun x => x.f0.size ≤ maxLen ∧ x.f1.size ≤ maxLen ∧ (∀ z ∈ x.f2, z.size ≤ maxLen) ∧ (∀ z ∈ x.f3, z.f0.size ≤ maxLen ∧ (Lit.int .i64 z.f1).wf = true)) := by
  intro H enc w base spare held fuel cs y h
  obtain ⟨xs, n, _, _, hl, hlen, hf⟩ := DataW.trod_struct Try.underlying40 h
  rw [show Try.prog.cellsOf 40 = 4 from by kernel_rfl] at hl
  have hlen' : xs.length = 4 := hlen
  have h0 := hf 0 _ rfl
  rw [List.getElem?_eq_getElem (l := xs) (i := 0) (by omega)] at h0
  replace h0 : DataW.trod enc Try.prog w base spare held n 9 ((cs.drop 0).take (Try.prog.cellsOf 9)) = some xs[0] := h0
  rw [show Try.prog.cellsOf 9 = 1 from by kernel_rfl] at h0
  obtain ⟨x0, K0, o0⟩ := opens_str enc w base spare held n _ _ h0
  have h1 := hf 1 _ rfl
  rw [List.getElem?_eq_getElem (l := xs) (i := 1) (by omega)] at h1
  replace h1 : DataW.trod enc Try.prog w base spare held n 9 ((cs.drop 1).take (Try.prog.cellsOf 9)) = some xs[1] := h1
  rw [show Try.prog.cellsOf 9 = 1 from by kernel_rfl] at h1
  obtain ⟨x1, K1, o1⟩ := opens_str enc w base spare held n _ _ h1
  have h2 := hf 2 _ rfl
  rw [List.getElem?_eq_getElem (l := xs) (i := 2) (by omega)] at h2
  replace h2 : DataW.trod enc Try.prog w base spare held n 37 ((cs.drop 2).take (Try.prog.cellsOf 37)) = some xs[2] := h2
  rw [show Try.prog.cellsOf 37 = 1 from by kernel_rfl] at h2
  obtain ⟨x2, K2, o2⟩ := opens_strs enc w base spare held n _ _ h2
  have h3 := hf 3 _ rfl
  rw [List.getElem?_eq_getElem (l := xs) (i := 3) (by omega)] at h3
  replace h3 : DataW.trod enc Try.prog w base spare held n 38 ((cs.drop 3).take (Try.prog.cellsOf 38)) = some xs[3] := h3
  rw [show Try.prog.cellsOf 38 = 1 from by kernel_rfl] at h3
  obtain ⟨x3, K3, o3⟩ := opens_fields enc w base spare held n _ _ h3
  have e : cs = (cs.drop 0).take 1 ++ ((cs.drop 1).take 1 ++ ((cs.drop 2).take 1 ++ ((cs.drop 3).take 1))) := by
    have g0 : cs.drop 0 = (cs.drop 0).take 1 ++ cs.drop 1 := by rw [show cs.drop 1 = (cs.drop 0).drop 1 from by rw [List.drop_drop], List.take_append_drop]
    have g1 : cs.drop 1 = (cs.drop 1).take 1 ++ cs.drop 2 := by rw [show cs.drop 2 = (cs.drop 1).drop 1 from by rw [List.drop_drop], List.take_append_drop]
    have g2 : cs.drop 2 = (cs.drop 2).take 1 ++ cs.drop 3 := by rw [show cs.drop 3 = (cs.drop 2).drop 1 from by rw [List.drop_drop], List.take_append_drop]
    have g3 : cs.drop 3 = (cs.drop 3).take 1 ++ cs.drop 4 := by rw [show cs.drop 4 = (cs.drop 3).drop 1 from by rw [List.drop_drop], List.take_append_drop]
    have z : cs.drop 4 = [] := List.drop_eq_nil_of_le (by omega)
    rw [z, List.append_nil] at g3
    calc cs = cs.drop 0 := rfl
      _ = (cs.drop 0).take 1 ++ ((cs.drop 1).take 1 ++ ((cs.drop 2).take 1 ++ ((cs.drop 3).take 1))) := by rw [← g3, ← g2, ← g1]; exact g0
  refine ⟨⟨x0, x1, x2, x3⟩, ?_, o0, o1, o2, o3⟩
  rw [e]
  exact ⟨_, _, rfl, K0, ⟨_, _, rfl, K1, ⟨_, _, rfl, K2, K3⟩⟩⟩
end Go.Proofs.Ytafeakcajhhkoaa.Gen
namespace Go.Proofs.Ytafeakcajhhkoaa.Gen
open Go.RowKit Go.Proofs.YtafeakcajhhkoaaW.PrintWords Go.Proofs.YtafeakcajhhkoaaW.PrintLast Go.Proofs.YtafeakcajhhkoaaW.PrintMore Go.Proofs.Ytafeakcajhhkoaa.Prt
set_option linter.unusedVariables false
set_option linter.unusedSimpArgs false
theorem opens_events : Opens Try.prog 22 (Kd.slice 40 k40) (fun xs => ∀ x ∈ xs, x.f0.size ≤ maxLen ∧ x.f1.size ≤ maxLen ∧ (∀ z ∈ x.f2, z.size ≤ maxLen) ∧ (∀ z ∈ x.f3, z.f0.size ≤ maxLen ∧ (Lit.int .i64 z.f1).wf = true)) := opens_slice Try.underlying22 (by kernel_rfl) opens_event
end Go.Proofs.Ytafeakcajhhkoaa.Gen
namespace Go.Proofs.Ytafeakcajhhkoaa.Gen
open Go.RowKit Go.Proofs.YtafeakcajhhkoaaW.PrintWords Go.Proofs.YtafeakcajhhkoaaW.PrintLast Go.Proofs.YtafeakcajhhkoaaW.PrintMore Go.Proofs.Ytafeakcajhhkoaa.Prt
set_option linter.unusedVariables false
set_option linter.unusedSimpArgs false
/-- Events that came in. -/
def OkIn (l : List S40) : Prop := ∀ x ∈ l, x.f0.size ≤ maxLen ∧ x.f1.size ≤ maxLen ∧ (∀ z ∈ x.f2, z.size ≤ maxLen) ∧ (∀ z ∈ x.f3, z.f0.size ≤ maxLen ∧ (Lit.int .i64 z.f1).wf = true)
theorem opens_batch : Opens Try.prog 24 k24 (fun x => (Lit.int .i64 x.f0).wf = true ∧ OkIn x.f1) := by
  intro H enc w base spare held fuel cs y h
  obtain ⟨xs, n, _, _, hl, hlen, hf⟩ := DataW.trod_struct Try.underlying24 h
  rw [show Try.prog.cellsOf 24 = 2 from by kernel_rfl] at hl
  have hlen' : xs.length = 2 := hlen
  have h0 := hf 0 _ rfl
  rw [List.getElem?_eq_getElem (l := xs) (i := 0) (by omega)] at h0
  replace h0 : DataW.trod enc Try.prog w base spare held n 3 ((cs.drop 0).take (Try.prog.cellsOf 3)) = some xs[0] := h0
  rw [show Try.prog.cellsOf 3 = 1 from by kernel_rfl] at h0
  obtain ⟨x0, K0, o0⟩ := opens_i64 enc w base spare held n _ _ h0
  have h1 := hf 1 _ rfl
  rw [List.getElem?_eq_getElem (l := xs) (i := 1) (by omega)] at h1
  replace h1 : DataW.trod enc Try.prog w base spare held n 22 ((cs.drop 1).take (Try.prog.cellsOf 22)) = some xs[1] := h1
  rw [show Try.prog.cellsOf 22 = 1 from by kernel_rfl] at h1
  obtain ⟨x1, K1, o1⟩ := opens_events enc w base spare held n _ _ h1
  have e : cs = (cs.drop 0).take 1 ++ ((cs.drop 1).take 1) := by
    have g0 : cs.drop 0 = (cs.drop 0).take 1 ++ cs.drop 1 := by rw [show cs.drop 1 = (cs.drop 0).drop 1 from by rw [List.drop_drop], List.take_append_drop]
    have g1 : cs.drop 1 = (cs.drop 1).take 1 ++ cs.drop 2 := by rw [show cs.drop 2 = (cs.drop 1).drop 1 from by rw [List.drop_drop], List.take_append_drop]
    have z : cs.drop 2 = [] := List.drop_eq_nil_of_le (by omega)
    rw [z, List.append_nil] at g1
    calc cs = cs.drop 0 := rfl
      _ = (cs.drop 0).take 1 ++ ((cs.drop 1).take 1) := by rw [← g1]; exact g0
  refine ⟨⟨x0, x1⟩, ?_, o0, o1⟩
  rw [e]
  exact ⟨_, _, rfl, K0, K1⟩
end Go.Proofs.Ytafeakcajhhkoaa.Gen
namespace Go.Proofs.Ytafeakcajhhkoaa.Prt
open Go.RowKit Go.Proofs.YtafeakcajhhkoaaW.PrintWords Go.Proofs.YtafeakcajhhkoaaW.PrintLast Go.Proofs.YtafeakcajhhkoaaW.PrintMore Go.Proofs.Ytafeakcajhhkoaa.Num Go.Proofs.Ytafeakcajhhkoaa.Nam Go.Proofs.Ytafeakcajhhkoaa.Gen
set_option linter.unusedVariables false
set_option linter.unusedSimpArgs false

theorem fitsBatchParts {l : List S40} (h : OkIn l) : FitsB l := fun x hx => ⟨(h x hx).1, (h x hx).2.1, (h x hx).2.2.1, fun z hz => ((h x hx).2.2.2 z hz).1⟩
theorem batchParts_law (cs : Array Value) (x : S24) (i : Int) (w : World) (y : k24.K w x cs.toList) (hx : (Lit.int .i64 x.f0).wf = true ∧ OkIn x.f1) (wi : (Lit.int .i64 i).wf = true) :
    Calls Try.prog 5 #[.agg cs, .int .i64 i] w fun e w' => e = .returned (.bool true) ∧ Below w.heap.size w w' := by
  obtain ⟨A, c, e, hc, hC⟩ := k24_open y
  obtain rfl : cs = #[.int .i64 x.f0, .slice A x.f1.length c] := by cases cs; simp_all
  exact registrarlaw10_BatchParts.calls 60 x.f0 A c x.f1 i true w hC hc (batchParts_true x.f0 x.f1 i (fitsBatchParts hx.2))
end Go.Proofs.Ytafeakcajhhkoaa.Prt

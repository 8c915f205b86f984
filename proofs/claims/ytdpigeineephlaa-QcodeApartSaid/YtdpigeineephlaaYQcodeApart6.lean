/- Functions of the program, told as plain functions, with their walks: written by a program of this claim's out of the translation. The statement QcodeApart, of plain functions. Arguments of any shape, opened: what reads as data lies in memory as a list, a struct, a text .. Arguments that are texts and numbers, opened. Arguments that are queries and projections, opened. The statement QcodeApart: the walk of the law. -/
import Derived.ChangeArms
import Derived.OpenShut
import Derived.DataReads
import Derived.Deep.Slices
import Derived.Test.YtdpigeineephlaaYQcodeApart1
import Derived.Test.YtdpigeineephlaaYQcodeApart2
import Derived.Test.YtdpigeineephlaaYQcodeApart3
import Derived.Test.YtdpigeineephlaaYQcodeApart4
import Derived.Test.YtdpigeineephlaaYQcodeApart5
namespace Go.Proofs.Ytdpigeineephlaa.Prt
open Go.RowKit Go.Proofs.YtdpigeineephlaaW.PrintWords Go.Proofs.YtdpigeineephlaaW.PrintLast Go.Proofs.YtdpigeineephlaaW.PrintMore
attribute [local go_sem] max2_int min2_int max_two min_two max_three min_three max_four min_four   -- for this text's walks alone
set_option linter.unusedVariables false
set_option linter.unusedSimpArgs false

mutual
def registrarlaw07_QcodeApart.j0 : Nat → Bool → List Int → List Int → Bool → List (S60) → List (S60) → List (S36) → List (S36) → Option (Bool)
  | 0, _, _, _, _, _, _, _, _ => none
  | k + 1, x7, x8, x10, x39, x317000, x318000, x319000, x319001 => if x39 = true then ((registrarref06_SameG.f x317000 x318000).bind fun t334 => (if (x10.length : Int) ≥ (x8.length : Int) then (if 0 ≤ (x8.length : Int) then (if (x8.length : Int) ≤ (x10.length : Int) then (if (((strOfNums (x10.take ((x8.length : Int) : Int).toNat)).toList == (strOfNums x8).toList) != t334) = true then (some false) else (registrarlaw07_QcodeApart.j1 k x7 x319000 x319001)) else (none)) else (none)) else (if (false != t334) = true then (some false) else (registrarlaw07_QcodeApart.j1 k x7 x319000 x319001)))) else (registrarlaw07_QcodeApart.j1 k x7 x319000 x319001)
def registrarlaw07_QcodeApart.j1 : Nat → Bool → List (S36) → List (S36) → Option (Bool)
  | 0, _, _, _ => none
  | k + 1, x7, x319000, x319001 => (registrarlaw07_some.f k x319000).bind fun t340 => ((qcode_PutDefs.f t340).bind fun bt343 => ((registrarlaw07_some.f k x319001).bind fun t347 => ((qcode_PutDefs.f t347).bind fun bt350 => (if bt343.2 = 0 then (registrarlaw07_QcodeApart.j2 k x7 bt343.1 bt350.1 (bt350.2 != 0) x319000 x319001) else (registrarlaw07_QcodeApart.j2 k x7 bt343.1 bt350.1 true x319000 x319001)))))
def registrarlaw07_QcodeApart.j2 : Nat → Bool → List Int → List Int → Bool → List (S36) → List (S36) → Option (Bool)
  | 0, _, _, _, _, _, _ => none
  | k + 1, x7, x14, x16, x80, x319000, x319001 => if x80 = true then (some x7) else ((registrarlaw07_some.f k x319000).bind fun t354 => ((registrarlaw07_some.f k x319001).bind fun t357 => ((registrarref07_SameDefsG.f t354 t357).bind fun t360 => (if x7 = true then (some (((strOfNums x14).toList == (strOfNums x16).toList) == t360)) else (some false)))))
end
def registrarlaw07_QcodeApart.f (k : Nat) (l0_0 : List (S60)) (l1_0 : List (S60)) (l2_0 : List (S36)) (l2_1 : List (S36)) : Option (Bool) := (registrarlaw07_shown.f).bind fun t319 => ((registrarlaw07_few.f k l0_0).bind fun t320 => ((registrarlaw07_few.f k l1_0).bind fun t323 => ((qcode_Put.f ([] : List Int) t320).bind fun bt326 => ((qcode_Put.f ([] : List Int) t323).bind fun bt330 => (if bt326.2 = 0 then (registrarlaw07_QcodeApart.j0 k t319 bt326.1 bt330.1 (bt330.2 == 0) t320 t323 l2_0 l2_1) else (registrarlaw07_QcodeApart.j0 k t319 bt326.1 bt330.1 false t320 t323 l2_0 l2_1))))))
def registrarlaw07_QcodeApart.T8 : Bool × List (List Nat × List Nat) := (true, [([], []), ([0], [0]), ([], []), ([2], [2]), ([1, 3], [1, 3]), ([4], [4]), ([5], [5]), ([5], [5]), ([7, 5], [5, 7]), ([6, 8, 5], [5, 6, 8]), ([9, 5], [5, 9]), ([5], [5]), ([11, 5], [5, 11]), ([10, 12, 5], [5, 10, 12]), ([5, 13], [5, 13]), ([14, 5, 0, 1, 2, 3, 4, 5, 6, 7, 8, 9, 10, 11, 12, 13, 14], [14])])
def registrarlaw07_QcodeApart.B8 : List Nat := [0, 1, 0, 4, 15, 31, 63, 63, 191, 511, 1023, 63, 2111, 8191, 16383, 32767]
theorem registrarlaw07_QcodeApart.tab8 : rtab .any (opsOf Try.f4 8) = registrarlaw07_QcodeApart.T8 := by kernel_rfl
theorem registrarlaw07_QcodeApart.bits8 : waitsOk registrarlaw07_QcodeApart.T8.2 registrarlaw07_QcodeApart.B8 = true := by kernel_rfl
def registrarlaw07_QcodeApart.T15 : Bool × List (List Nat × List Nat) := (true, [([], []), ([0], [0]), ([1], [1]), ([], []), ([3], [3]), ([4, 2], [4]), ([2, 5, 5], [2, 5]), ([6, 6, 0, 1, 2, 3, 4, 5, 6], [6])])
def registrarlaw07_QcodeApart.B15 : List Nat := [0, 1, 3, 0, 8, 31, 63, 127]
theorem registrarlaw07_QcodeApart.tab15 : rtab .any (opsOf Try.f4 15) = registrarlaw07_QcodeApart.T15 := by kernel_rfl
theorem registrarlaw07_QcodeApart.bits15 : waitsOk registrarlaw07_QcodeApart.T15.2 registrarlaw07_QcodeApart.B15 = true := by kernel_rfl
set_option maxHeartbeats 8000000 in
set_option maxRecDepth 100000 in
theorem registrarlaw07_QcodeApart.calls (k : Nat) (A0_0 : Option Addr) (c0_0 : Nat) (l0_0 : List (S60)) (A1_0 : Option Addr) (c1_0 : Nat) (l1_0 : List (S60)) (A2_0 : Option Addr) (c2_0 : Nat) (l2_0 : List (S36)) (A2_1 : Option Addr) (c2_1 : Nat) (l2_1 : List (S36)) (r : Bool) (w : World) (hr0_0 : Kd.C k60 w A0_0 l0_0.length l0_0) (hc0_0 : l0_0.length ≤ c0_0) (hr1_0 : Kd.C k60 w A1_0 l1_0.length l1_0) (hc1_0 : l1_0.length ≤ c1_0) (hr2_0 : Kd.C k36 w A2_0 l2_0.length l2_0) (hc2_0 : l2_0.length ≤ c2_0) (hr2_1 : Kd.C k36 w A2_1 l2_1.length l2_1) (hc2_1 : l2_1.length ≤ c2_1) (h : registrarlaw07_QcodeApart.f k l0_0 l1_0 l2_0 l2_1 = some r) :
    Calls Try.prog 4 #[.agg #[.slice A0_0 l0_0.length c0_0], .agg #[.slice A1_0 l1_0.length c1_0], .agg #[.slice A2_0 l2_0.length c2_0, .slice A2_1 l2_1.length c2_1]] w fun e w' => e = .returned (.bool r) ∧ Below w.heap.size w w' := by
  have hu25 := Try.underlying25
  have hu39 := Try.underlying39
  have HR0_0 := Aside0.mk hr0_0
  have HC0_0 := Aside0.mk hc0_0
  clear hr0_0 hc0_0
  have HR1_0 := Aside0.mk hr1_0
  have HC1_0 := Aside0.mk hc1_0
  clear hr1_0 hc1_0
  have HR2_0 := Aside0.mk hr2_0
  have HC2_0 := Aside0.mk hc2_0
  clear hr2_0 hc2_0
  have HR2_1 := Aside0.mk hr2_1
  have HC2_1 := Aside0.mk hc2_1
  clear hr2_1 hc2_1
  have HB := Aside0.mk (Below.refl w.heap.size w)
  have H : ((registrarlaw07_shown.f).bind fun t319 => ((registrarlaw07_few.f k l0_0).bind fun t320 => ((registrarlaw07_few.f k l1_0).bind fun t323 => ((qcode_Put.f ([] : List Int) t320).bind fun bt326 => ((qcode_Put.f ([] : List Int) t323).bind fun bt330 => (if bt326.2 = 0 then (registrarlaw07_QcodeApart.j0 k t319 bt326.1 bt330.1 (bt330.2 == 0) t320 t323 l2_0 l2_1) else (registrarlaw07_QcodeApart.j0 k t319 bt326.1 bt330.1 false t320 t323 l2_0 l2_1))))))) = some r := h
  clear h
  replace H := Option.bind_eq_some_iff.mp H
  obtain ⟨t319, A40, H⟩ := H
  replace H : ((registrarlaw07_few.f k l0_0).bind fun t320 => ((registrarlaw07_few.f k l1_0).bind fun t323 => ((qcode_Put.f ([] : List Int) t320).bind fun bt326 => ((qcode_Put.f ([] : List Int) t323).bind fun bt330 => (if bt326.2 = 0 then (registrarlaw07_QcodeApart.j0 k t319 bt326.1 bt330.1 (bt330.2 == 0) t320 t323 l2_0 l2_1) else (registrarlaw07_QcodeApart.j0 k t319 bt326.1 bt330.1 false t320 t323 l2_0 l2_1)))))) = some r := H
  have A4 := Aside0.mk A40
  clear A40
  replace H := Option.bind_eq_some_iff.mp H
  obtain ⟨t320, A50, H⟩ := H
  replace H : ((registrarlaw07_few.f k l1_0).bind fun t323 => ((qcode_Put.f ([] : List Int) t320).bind fun bt326 => ((qcode_Put.f ([] : List Int) t323).bind fun bt330 => (if bt326.2 = 0 then (registrarlaw07_QcodeApart.j0 k t319 bt326.1 bt330.1 (bt330.2 == 0) t320 t323 l2_0 l2_1) else (registrarlaw07_QcodeApart.j0 k t319 bt326.1 bt330.1 false t320 t323 l2_0 l2_1))))) = some r := H
  have A5 := Aside0.mk A50
  clear A50
  replace H := Option.bind_eq_some_iff.mp H
  obtain ⟨t323, A60, H⟩ := H
  replace H : ((qcode_Put.f ([] : List Int) t320).bind fun bt326 => ((qcode_Put.f ([] : List Int) t323).bind fun bt330 => (if bt326.2 = 0 then (registrarlaw07_QcodeApart.j0 k t319 bt326.1 bt330.1 (bt330.2 == 0) t320 t323 l2_0 l2_1) else (registrarlaw07_QcodeApart.j0 k t319 bt326.1 bt330.1 false t320 t323 l2_0 l2_1)))) = some r := H
  have A6 := Aside0.mk A60
  clear A60
  replace H := Option.bind_eq_some_iff.mp H
  obtain ⟨⟨t326, t329⟩, A70, H⟩ := H
  replace H : ((qcode_Put.f ([] : List Int) t323).bind fun bt330 => (if t329 = 0 then (registrarlaw07_QcodeApart.j0 k t319 t326 bt330.1 (bt330.2 == 0) t320 t323 l2_0 l2_1) else (registrarlaw07_QcodeApart.j0 k t319 t326 bt330.1 false t320 t323 l2_0 l2_1))) = some r := H
  have A7 := Aside0.mk A70
  clear A70
  replace H := Option.bind_eq_some_iff.mp H
  obtain ⟨⟨t330, t333⟩, A80, H⟩ := H
  replace H : (if t329 = 0 then (registrarlaw07_QcodeApart.j0 k t319 t326 t330 (t333 == 0) t320 t323 l2_0 l2_1) else (registrarlaw07_QcodeApart.j0 k t319 t326 t330 false t320 t323 l2_0 l2_1)) = some r := H
  have A8 := Aside0.mk A80
  clear A80
  have HC9 := Aside0.mk H
  clear H
  go_enter Try.func4, Try.ntmps4
  go_upto_region 6 with (first | ((with_reducible refine gate_dst (N := 3) rfl ?_); (try (refine gate_guard (by rfl) ?_; dsimp only)); refine box_event ?hg (N := 3) ?hd (cs := #[.slice A0_0 l0_0.length c0_0]) (t := 25) ?hr ?_; (case hd => rfl); (case hg => rfl); (case hr => first | (go_simp; done) | (go_simp; rfl)); intro gb316 hg w10 hbox hb; have n0_ := Aside0.mk (below_step (by repeat (first | (with_reducible first | exact HB.out | apply below_alloc | apply pw_below_drewN | apply below_drew1) | exact HB.out)) hb); have n1_ := Aside0.mk (hbox); have n2_ := Aside0.mk ((by rw [hg]; exact (below_size (by repeat (first | (with_reducible first | exact HB.out | apply below_alloc | apply pw_below_drewN | apply below_drew1) | exact HB.out))) : w.heap.size ≤ gb316)); have n3_ := Aside0.mk ((by rw [hg]; exact (below_size (by repeat (first | (with_reducible first | exact HB.out | apply below_alloc | apply pw_below_drewN | apply below_drew1) | exact HB.out))) : w.heap.size ≤ gb316)); clear HB; have HB := n0_; have BK316 := n1_; have GW316 := n2_; have GE316 := n3_; clear n0_ n1_ n2_ n3_; clear hb hbox hg) | ((with_reducible refine gate_dst (N := 4) rfl ?_); (try (refine gate_guard (by rfl) ?_; dsimp only)); refine box_event ?hg (N := 4) ?hd (cs := #[.slice A1_0 l1_0.length c1_0]) (t := 25) ?hr ?_; (case hd => rfl); (case hg => rfl); (case hr => first | (go_simp; done) | (go_simp; rfl)); intro gb317 hg w11 hbox hb; have n0_ := Aside0.mk (blk_below (g := gb316) (o := .cells #[.slice A0_0 l0_0.length c0_0] 25 (0, 0)) (by (with_reducible repeat (first | refine blk_drewN ?_ _ | refine blk_drew ?_ | refine blk_alloc ?_ _)); exact BK316.out) hb); have n1_ := Aside0.mk (below_step (by repeat (first | (with_reducible first | exact HB.out | apply below_alloc | apply pw_below_drewN | apply below_drew1 | refine below_set ?_ GE316.out) | exact HB.out)) hb); have n2_ := Aside0.mk (hbox); have n3_ := Aside0.mk ((by rw [hg]; exact (below_size (by repeat (first | (with_reducible first | exact HB.out | apply below_alloc | apply pw_below_drewN | apply below_drew1 | refine below_set ?_ GE316.out) | exact HB.out))) : w.heap.size ≤ gb317)); have n4_ := Aside0.mk ((by rw [hg]; exact (below_size (by repeat (first | (with_reducible first | exact HB.out | apply below_alloc | apply pw_below_drewN | apply below_drew1 | refine below_set ?_ GE316.out) | exact HB.out))) : w.heap.size ≤ gb317)); have n5_ := Aside0.mk ((by rw [hg]; exact Nat.ne_of_lt (blk_lt (g := gb316) (o := .cells #[.slice A0_0 l0_0.length c0_0] 25 (0, 0)) (by (with_reducible repeat (first | refine blk_drewN ?_ _ | refine blk_drew ?_ | refine blk_alloc ?_ _)); exact BK316.out)) : gb316 ≠ gb317)); have n6_ := Aside0.mk ((by rw [hg]; exact Nat.ne_of_gt (blk_lt (g := gb316) (o := .cells #[.slice A0_0 l0_0.length c0_0] 25 (0, 0)) (by (with_reducible repeat (first | refine blk_drewN ?_ _ | refine blk_drew ?_ | refine blk_alloc ?_ _)); exact BK316.out)) : gb317 ≠ gb316)); clear BK316; clear HB; have BK316 := n0_; have HB := n1_; have BK317 := n2_; have GW317 := n3_; have GE317 := n4_; have NB316_317 := n5_; have NB317_316 := n6_; clear n0_ n1_ n2_ n3_ n4_ n5_ n6_; clear hb hbox hg) | ((with_reducible refine gate_dst (N := 5) rfl ?_); (try (refine gate_guard (by rfl) ?_; dsimp only)); refine box_event ?hg (N := 5) ?hd (cs := #[.slice A2_0 l2_0.length c2_0, .slice A2_1 l2_1.length c2_1]) (t := 39) ?hr ?_; (case hd => rfl); (case hg => rfl); (case hr => first | (go_simp; done) | (go_simp; rfl)); intro gb318 hg w12 hbox hb; have n0_ := Aside0.mk (blk_below (g := gb316) (o := .cells #[.slice A0_0 l0_0.length c0_0] 25 (0, 0)) (by (with_reducible repeat (first | refine blk_drewN ?_ _ | refine blk_drew ?_ | refine blk_alloc ?_ _)); exact BK316.out) hb); have n1_ := Aside0.mk (blk_below (g := gb317) (o := .cells #[.slice A1_0 l1_0.length c1_0] 25 (0, 0)) (by (with_reducible repeat (first | refine blk_drewN ?_ _ | refine blk_drew ?_ | refine blk_alloc ?_ _)); exact BK317.out) hb); have n2_ := Aside0.mk (below_step (by repeat (first | (with_reducible first | exact HB.out | apply below_alloc | apply pw_below_drewN | apply below_drew1 | refine below_set ?_ GE316.out | refine below_set ?_ GE317.out) | exact HB.out)) hb); have n3_ := Aside0.mk (hbox); have n4_ := Aside0.mk ((by rw [hg]; exact (below_size (by repeat (first | (with_reducible first | exact HB.out | apply below_alloc | apply pw_below_drewN | apply below_drew1 | refine below_set ?_ GE316.out | refine below_set ?_ GE317.out) | exact HB.out))) : w.heap.size ≤ gb318)); have n5_ := Aside0.mk ((by rw [hg]; exact (below_size (by repeat (first | (with_reducible first | exact HB.out | apply below_alloc | apply pw_below_drewN | apply below_drew1 | refine below_set ?_ GE316.out | refine below_set ?_ GE317.out) | exact HB.out))) : w.heap.size ≤ gb318)); have n6_ := Aside0.mk ((by rw [hg]; exact Nat.ne_of_lt (blk_lt (g := gb316) (o := .cells #[.slice A0_0 l0_0.length c0_0] 25 (0, 0)) (by (with_reducible repeat (first | refine blk_drewN ?_ _ | refine blk_drew ?_ | refine blk_alloc ?_ _)); exact BK316.out)) : gb316 ≠ gb318)); have n7_ := Aside0.mk ((by rw [hg]; exact Nat.ne_of_gt (blk_lt (g := gb316) (o := .cells #[.slice A0_0 l0_0.length c0_0] 25 (0, 0)) (by (with_reducible repeat (first | refine blk_drewN ?_ _ | refine blk_drew ?_ | refine blk_alloc ?_ _)); exact BK316.out)) : gb318 ≠ gb316)); have n8_ := Aside0.mk ((by rw [hg]; exact Nat.ne_of_lt (blk_lt (g := gb317) (o := .cells #[.slice A1_0 l1_0.length c1_0] 25 (0, 0)) (by (with_reducible repeat (first | refine blk_drewN ?_ _ | refine blk_drew ?_ | refine blk_alloc ?_ _)); exact BK317.out)) : gb317 ≠ gb318)); have n9_ := Aside0.mk ((by rw [hg]; exact Nat.ne_of_gt (blk_lt (g := gb317) (o := .cells #[.slice A1_0 l1_0.length c1_0] 25 (0, 0)) (by (with_reducible repeat (first | refine blk_drewN ?_ _ | refine blk_drew ?_ | refine blk_alloc ?_ _)); exact BK317.out)) : gb318 ≠ gb317)); clear BK316; clear BK317; clear HB; have BK316 := n0_; have BK317 := n1_; have HB := n2_; have BK318 := n3_; have GW318 := n4_; have GE318 := n5_; have NB316_318 := n6_; have NB318_316 := n7_; have NB317_318 := n8_; have NB318_317 := n9_; clear n0_ n1_ n2_ n3_ n4_ n5_ n6_ n7_ n8_ n9_; clear hb hbox hg) | ((with_reducible refine gate_callee (f := 9) rfl ?_); refine goesL_ (some 19) rfl rfl Try.func9 (by kernel_rfl) rfl #[] rfl (by (try simp only [List.map_toArray, List.map_cons, List.map_nil]); first | done | rfl | (simp only [List.length_drop, List.length_take]; rfl)) ?_; (with_reducible refine (registrarlaw07_shown.calls  t319 _ A4.out).mono ?_); rintro e w13 ⟨rfl, hb⟩; refine ⟨_, rfl, ?_⟩; have n0_ := Aside0.mk (blk_below (g := gb316) (o := .cells #[.slice A0_0 l0_0.length c0_0] 25 (0, 0)) (by (with_reducible repeat (first | refine blk_drewN ?_ _ | refine blk_drew ?_ | refine blk_alloc ?_ _)); exact BK316.out) hb); have n1_ := Aside0.mk (blk_below (g := gb317) (o := .cells #[.slice A1_0 l1_0.length c1_0] 25 (0, 0)) (by (with_reducible repeat (first | refine blk_drewN ?_ _ | refine blk_drew ?_ | refine blk_alloc ?_ _)); exact BK317.out) hb); have n2_ := Aside0.mk (blk_below (g := gb318) (o := .cells #[.slice A2_0 l2_0.length c2_0, .slice A2_1 l2_1.length c2_1] 39 (0, 0)) (by (with_reducible repeat (first | refine blk_drewN ?_ _ | refine blk_drew ?_ | refine blk_alloc ?_ _)); exact BK318.out) hb); have n3_ := Aside0.mk (below_step (by repeat (first | (with_reducible first | exact HB.out | apply below_alloc | apply pw_below_drewN | apply below_drew1 | refine below_set ?_ GE316.out | refine below_set ?_ GE317.out | refine below_set ?_ GE318.out) | exact HB.out)) hb); clear BK316; clear BK317; clear BK318; clear HB; have BK316 := n0_; have BK317 := n1_; have BK318 := n2_; have HB := n3_; clear n0_ n1_ n2_ n3_; (try clear hb); (try clear hb2); (try clear hk); (try clear hi); have hnb14 := NB316_317.out; have hnc14 := NB317_316.out; have hnb15 := NB316_318.out; have hnc15 := NB318_316.out; have hcz16_0 : w13.cell? ⟨gb316, 0, none⟩ = some (.slice A0_0 l0_0.length c0_0) := (blk_cell BK316.out 0).trans rfl; have hfz16_0 := blk_frozen BK316.out 0) | ((with_reducible refine gate_callee (f := 11) rfl ?_); refine goesL_ (some 21) rfl rfl Try.func11 (by kernel_rfl) rfl #[.agg #[.slice A0_0 l0_0.length c0_0]] rfl (by (try simp only [List.map_toArray, List.map_cons, List.map_nil]); first | done | rfl | (simp only [List.length_drop, List.length_take]; rfl)) ?_; (with_reducible refine (registrarlaw07_few.calls k (fun k_ => k_ < w.heap.size) _ _ l0_0 t320 _ ?side1 A5.out).mono ?_); (case side1 => exact Kd.V_mk HC0_0.out (Kd.F_below (Kd.C_F k60_heap HR0_0.out) (by repeat (first | (with_reducible first | exact HB.out | apply below_alloc | apply pw_below_drewN | apply below_drew1 | refine below_set ?_ GE316.out | refine below_set ?_ GE317.out | refine below_set ?_ GE318.out) | exact HB.out)))); rintro e w17 ⟨v321, rfl, ho0, hb⟩; refine ⟨_, rfl, ?_⟩; have n0_ := Aside0.mk (Kd.N_lower (Kd.N_mono (ok' := fun k_ => k_ ≠ gb316 ∧ k_ ≠ gb317 ∧ k_ ≠ gb318) ho0 (fun k_ hk_ => ⟨Or.elim hk_ (fun hs_ => fun e_ => Nat.not_le.2 hs_ (by rw [e_]; exact GW316.out)) (fun hn_ => (Kd.freshB (g := gb316) (o := .cells #[.slice A0_0 l0_0.length c0_0] 25 (0, 0)) (by (with_reducible repeat (first | refine blk_drewN ?_ _ | refine blk_drew ?_ | refine blk_alloc ?_ _)); exact BK316.out) k_ hn_)), Or.elim hk_ (fun hs_ => fun e_ => Nat.not_le.2 hs_ (by rw [e_]; exact GW317.out)) (fun hn_ => (Kd.freshB (g := gb317) (o := .cells #[.slice A1_0 l1_0.length c1_0] 25 (0, 0)) (by (with_reducible repeat (first | refine blk_drewN ?_ _ | refine blk_drew ?_ | refine blk_alloc ?_ _)); exact BK317.out) k_ hn_)), Or.elim hk_ (fun hs_ => fun e_ => Nat.not_le.2 hs_ (by rw [e_]; exact GW318.out)) (fun hn_ => (Kd.freshB (g := gb318) (o := .cells #[.slice A2_0 l2_0.length c2_0, .slice A2_1 l2_1.length c2_1] 39 (0, 0)) (by (with_reducible repeat (first | refine blk_drewN ?_ _ | refine blk_drew ?_ | refine blk_alloc ?_ _)); exact BK318.out) k_ hn_))⟩)) (below_size (by repeat (first | (with_reducible first | exact HB.out | apply below_alloc | apply pw_below_drewN | apply below_drew1 | refine below_set ?_ GE316.out | refine below_set ?_ GE317.out | refine below_set ?_ GE318.out) | exact HB.out)))); have n1_ := Aside0.mk (blk_below (g := gb316) (o := .cells #[.slice A0_0 l0_0.length c0_0] 25 (0, 0)) (by (with_reducible repeat (first | refine blk_drewN ?_ _ | refine blk_drew ?_ | refine blk_alloc ?_ _)); exact BK316.out) hb); have n2_ := Aside0.mk (blk_below (g := gb317) (o := .cells #[.slice A1_0 l1_0.length c1_0] 25 (0, 0)) (by (with_reducible repeat (first | refine blk_drewN ?_ _ | refine blk_drew ?_ | refine blk_alloc ?_ _)); exact BK317.out) hb); have n3_ := Aside0.mk (blk_below (g := gb318) (o := .cells #[.slice A2_0 l2_0.length c2_0, .slice A2_1 l2_1.length c2_1] 39 (0, 0)) (by (with_reducible repeat (first | refine blk_drewN ?_ _ | refine blk_drew ?_ | refine blk_alloc ?_ _)); exact BK318.out) hb); have n4_ := Aside0.mk (below_step (by repeat (first | (with_reducible first | exact HB.out | apply below_alloc | apply pw_below_drewN | apply below_drew1 | refine below_set ?_ GE316.out | refine below_set ?_ GE317.out | refine below_set ?_ GE318.out) | exact HB.out)) hb); clear BK316; clear BK317; clear BK318; clear HB; have HO322 := n0_; have BK316 := n1_; have BK317 := n2_; have BK318 := n3_; have HB := n4_; clear n0_ n1_ n2_ n3_ n4_; (try clear hb); (try clear hb2); (try clear hk); (try clear hi); (try clear ho0); obtain ⟨Ao18, co18, eo18⟩ := Kd.N_slice HO322.out; subst eo18; have hcz19_0 : w17.cell? ⟨gb316, 0, none⟩ = some (.slice A0_0 l0_0.length c0_0) := (blk_cell BK316.out 0).trans rfl; have hfz19_0 := blk_frozen BK316.out 0) | ((with_reducible refine gate_store (t := 25) (p := 3) rfl ?_); refine store_event (t := 25) (p := 3) (v := ?vo_w20) (w1 := (w17.setCell ⟨gb316, 0, none⟩ (.slice Ao18 t320.length co18))) ?hg ?ho ?hn ?hr ?_; (case ho => rfl); (case hg => rfl); (case hn => rfl); (case hr => first | (go_simp; done) | (go_simp; rfl)); intro w20 hw; have n0_ : Aside0 (Kd.N k60 60 w20 w.heap.size (fun k_ => k_ ≠ gb316 ∧ k_ ≠ gb317 ∧ k_ ≠ gb318) (.slice Ao18 t320.length co18) t320) := ⟨(by rw [hw]; exact (by (with_reducible repeat (first | apply Kd.N_alloc | apply Kd.N_drewN | apply Kd.N_drew)); exact Kd.N_mono (Kd.N_far (p := ⟨gb316, 0, none⟩) (Kd.N_mono HO322.out (fun k_ hk => (⟨hk, hk.1⟩ : _ ∧ k_ ≠ gb316))) (fun _ hk => hk.2) (.slice Ao18 t320.length co18)) (fun _ hk => ⟨hk.1.1, ⟨hk.1.2.1, hk.1.2.2⟩⟩)))⟩; have n1_ : Aside0 (w20.heap[gb316]? = some (.cells #[.slice Ao18 t320.length co18] 25 (0, 0))) := ⟨(by rw [hw]; exact (by (with_reducible repeat (first | refine blk_drewN ?_ _ | refine blk_drew ?_ | refine blk_alloc ?_ _)); refine blk_put (cs := #[.slice A0_0 l0_0.length c0_0]) ?_ 0 _ rfl; (with_reducible repeat (first | refine blk_drewN ?_ _ | refine blk_drew ?_ | refine blk_alloc ?_ _)); exact BK316.out))⟩; have n2_ : Aside0 (w20.heap[gb317]? = some (.cells #[.slice A1_0 l1_0.length c1_0] 25 (0, 0))) := ⟨(by rw [hw]; exact (by (with_reducible repeat (first | refine blk_drewN ?_ _ | refine blk_drew ?_ | refine blk_alloc ?_ _)); refine blk_far ?_ NB317_316.out _; (with_reducible repeat (first | refine blk_drewN ?_ _ | refine blk_drew ?_ | refine blk_alloc ?_ _)); exact BK317.out))⟩; have n3_ : Aside0 (w20.heap[gb318]? = some (.cells #[.slice A2_0 l2_0.length c2_0, .slice A2_1 l2_1.length c2_1] 39 (0, 0))) := ⟨(by rw [hw]; exact (by (with_reducible repeat (first | refine blk_drewN ?_ _ | refine blk_drew ?_ | refine blk_alloc ?_ _)); refine blk_far ?_ NB318_316.out _; (with_reducible repeat (first | refine blk_drewN ?_ _ | refine blk_drew ?_ | refine blk_alloc ?_ _)); exact BK318.out))⟩; have n4_ : Aside0 (Below w.heap.size w w20) := ⟨(by rw [hw]; exact (by repeat (first | (with_reducible first | exact HB.out | apply below_alloc | apply pw_below_drewN | apply below_drew1 | refine below_set ?_ GE316.out | refine below_set ?_ GE317.out | refine below_set ?_ GE318.out) | exact HB.out)))⟩; clear hw; clear HO322; clear BK316; clear BK317; clear BK318; clear HB; have HO322 := n0_; have BK316 := n1_; have BK317 := n2_; have BK318 := n3_; have HB := n4_; clear n0_ n1_ n2_ n3_ n4_; have hnb21 := NB317_318.out; have hnc21 := NB318_317.out; have hcz22_0 : w20.cell? ⟨gb317, 0, none⟩ = some (.slice A1_0 l1_0.length c1_0) := (blk_cell BK317.out 0).trans rfl; have hfz22_0 := blk_frozen BK317.out 0) | ((with_reducible refine gate_callee (f := 11) rfl ?_); refine goesL_ (some 23) rfl rfl Try.func11 (by kernel_rfl) rfl #[.agg #[.slice A1_0 l1_0.length c1_0]] rfl (by (try simp only [List.map_toArray, List.map_cons, List.map_nil]); first | done | rfl | (simp only [List.length_drop, List.length_take]; rfl)) ?_; (with_reducible refine (registrarlaw07_few.calls k (fun k_ => k_ < w.heap.size) _ _ l1_0 t323 _ ?side1 A6.out).mono ?_); (case side1 => exact Kd.V_mk HC1_0.out (Kd.F_below (Kd.C_F k60_heap HR1_0.out) (by repeat (first | (with_reducible first | exact HB.out | apply below_alloc | apply pw_below_drewN | apply below_drew1 | refine below_set ?_ GE316.out | refine below_set ?_ GE317.out | refine below_set ?_ GE318.out) | exact HB.out)))); rintro e w23 ⟨v324, rfl, ho0, hb⟩; refine ⟨_, rfl, ?_⟩; have n0_ := Aside0.mk (Kd.N_elder' (by (with_reducible repeat (first | apply Kd.N_alloc | apply Kd.N_drewN | apply Kd.N_drew)); exact HO322.out) (Kd.N_base ho0) hb); have n1_ := Aside0.mk (Kd.N_lower (Kd.N_mono (ok' := fun k_ => some k_ ≠ (.slice Ao18 t320.length co18 : Value).ownBlock ∧ k_ ≠ gb316 ∧ k_ ≠ gb317 ∧ k_ ≠ gb318) ho0 (fun k_ hk_ => ⟨Or.elim hk_ (fun hs_ => fun e_ => Nat.not_le.2 hs_ (Kd.N_base HO322.out k_ e_.symm)) (fun hn_ => (Kd.fresh' (Kd.N_lt (by (with_reducible repeat (first | apply Kd.N_alloc | apply Kd.N_drewN | apply Kd.N_drew)); exact HO322.out)) k_ hn_)), Or.elim hk_ (fun hs_ => fun e_ => Nat.not_le.2 hs_ (by rw [e_]; exact GW316.out)) (fun hn_ => (Kd.freshB (g := gb316) (o := .cells #[.slice Ao18 t320.length co18] 25 (0, 0)) (by (with_reducible repeat (first | refine blk_drewN ?_ _ | refine blk_drew ?_ | refine blk_alloc ?_ _)); exact BK316.out) k_ hn_)), Or.elim hk_ (fun hs_ => fun e_ => Nat.not_le.2 hs_ (by rw [e_]; exact GW317.out)) (fun hn_ => (Kd.freshB (g := gb317) (o := .cells #[.slice A1_0 l1_0.length c1_0] 25 (0, 0)) (by (with_reducible repeat (first | refine blk_drewN ?_ _ | refine blk_drew ?_ | refine blk_alloc ?_ _)); exact BK317.out) k_ hn_)), Or.elim hk_ (fun hs_ => fun e_ => Nat.not_le.2 hs_ (by rw [e_]; exact GW318.out)) (fun hn_ => (Kd.freshB (g := gb318) (o := .cells #[.slice A2_0 l2_0.length c2_0, .slice A2_1 l2_1.length c2_1] 39 (0, 0)) (by (with_reducible repeat (first | refine blk_drewN ?_ _ | refine blk_drew ?_ | refine blk_alloc ?_ _)); exact BK318.out) k_ hn_))⟩)) (below_size (by repeat (first | (with_reducible first | exact HB.out | apply below_alloc | apply pw_below_drewN | apply below_drew1 | refine below_set ?_ GE316.out | refine below_set ?_ GE317.out | refine below_set ?_ GE318.out) | exact HB.out)))); have n2_ := Aside0.mk (blk_below (g := gb316) (o := .cells #[.slice Ao18 t320.length co18] 25 (0, 0)) (by (with_reducible repeat (first | refine blk_drewN ?_ _ | refine blk_drew ?_ | refine blk_alloc ?_ _)); exact BK316.out) hb); have n3_ := Aside0.mk (blk_below (g := gb317) (o := .cells #[.slice A1_0 l1_0.length c1_0] 25 (0, 0)) (by (with_reducible repeat (first | refine blk_drewN ?_ _ | refine blk_drew ?_ | refine blk_alloc ?_ _)); exact BK317.out) hb); have n4_ := Aside0.mk (blk_below (g := gb318) (o := .cells #[.slice A2_0 l2_0.length c2_0, .slice A2_1 l2_1.length c2_1] 39 (0, 0)) (by (with_reducible repeat (first | refine blk_drewN ?_ _ | refine blk_drew ?_ | refine blk_alloc ?_ _)); exact BK318.out) hb); have n5_ := Aside0.mk (below_step (by repeat (first | (with_reducible first | exact HB.out | apply below_alloc | apply pw_below_drewN | apply below_drew1 | refine below_set ?_ GE316.out | refine below_set ?_ GE317.out | refine below_set ?_ GE318.out) | exact HB.out)) hb); clear HO322; clear BK316; clear BK317; clear BK318; clear HB; have HO322 := n0_; have HO325 := n1_; have BK316 := n2_; have BK317 := n3_; have BK318 := n4_; have HB := n5_; clear n0_ n1_ n2_ n3_ n4_ n5_; (try clear hb); (try clear hb2); (try clear hk); (try clear hi); (try clear ho0); obtain ⟨Ao24, co24, eo24⟩ := Kd.N_slice HO325.out; subst eo24; have hcz25_0 : w23.cell? ⟨gb317, 0, none⟩ = some (.slice A1_0 l1_0.length c1_0) := (blk_cell BK317.out 0).trans rfl; have hfz25_0 := blk_frozen BK317.out 0; have hcz26_0 : w23.cell? ⟨gb316, 0, none⟩ = some (.slice Ao18 t320.length co18) := (blk_cell BK316.out 0).trans rfl; have hfz26_0 := blk_frozen BK316.out 0) | ((with_reducible refine gate_callee (f := 10) rfl ?_); refine goesL_ (some 26) rfl rfl Try.func10 (by kernel_rfl) rfl #[.slice none 0 0, .agg #[.slice Ao18 t320.length co18]] rfl (by (try simp only [List.map_toArray, List.map_cons, List.map_nil]); first | done | rfl | (simp only [List.length_drop, List.length_take]; rfl)) ?_; (refine (qcode_Put.calls _ _ ([] : List Int) _ _ t320 t326 t329 _ ?side1 ?side2 ?side3 ?side4 A7.out).mono ?_); (case side1 => exact Kd.C_nil _ _); (case side2 => exact Nat.le_refl _); (case side3 => refine (Kd.N_reads' (e := 60) (base := w.heap.size) (ok := fun k_ => ((k_ ≠ gb316 ∧ (k_ ≠ gb317 ∧ k_ ≠ gb318)) ∧ some k_ ≠ (.slice Ao24 t323.length co24 : Value).ownBlock)) (n := t320.length) (c := co18) ?_).2.2; exact (by (with_reducible repeat (first | apply Kd.N_alloc | apply Kd.N_drewN | apply Kd.N_drew)); exact (Kd.N_mono (Kd.N_far (p := ⟨gb317, 0, none⟩) (Kd.N_mono HO322.out (fun k_ hk => (⟨hk, hk.1.2.1⟩ : _ ∧ k_ ≠ gb317))) (fun _ hk => hk.2) (.slice Ao24 t323.length co24)) (fun _ h_ => h_.1)))); (case side4 => exact (Kd.N_reads' HO322.out).2.1); rintro e w27 ⟨v327, rfl, ho0, hb⟩; refine ⟨_, rfl, ?_⟩; have n0_ := Aside0.mk (Kd.N_elder' (by (with_reducible repeat (first | apply Kd.N_alloc | apply Kd.N_drewN | apply Kd.N_drew)); exact (Kd.N_mono (Kd.N_far (p := ⟨gb317, 0, none⟩) (Kd.N_mono HO322.out (fun k_ hk => (⟨hk, hk.1.2.1⟩ : _ ∧ k_ ≠ gb317))) (fun _ hk => hk.2) (.slice Ao24 t323.length co24)) (fun _ h_ => h_.1))) (Kd.R_base ho0) hb); have n1_ := Aside0.mk (Kd.N_elder' (by (with_reducible repeat (first | apply Kd.N_alloc | apply Kd.N_drewN | apply Kd.N_drew)); exact (Kd.N_mono (Kd.N_far (p := ⟨gb317, 0, none⟩) (Kd.N_mono HO325.out (fun k_ hk => (⟨hk, hk.2.2.1⟩ : _ ∧ k_ ≠ gb317))) (fun _ hk => hk.2) (.slice Ao24 t323.length co24)) (fun _ h_ => h_.1))) (Kd.R_base ho0) hb); have n2_ := Aside0.mk (Kd.R_lower ho0 (below_size (by repeat (first | (with_reducible first | exact HB.out | apply below_alloc | apply pw_below_drewN | apply below_drew1 | refine below_set ?_ GE316.out | refine below_set ?_ GE317.out | refine below_set ?_ GE318.out) | exact HB.out)))); have n3_ := Aside0.mk (blk_below (g := gb316) (o := .cells #[.slice Ao18 t320.length co18] 25 (0, 0)) (by (with_reducible repeat (first | refine blk_drewN ?_ _ | refine blk_drew ?_ | refine blk_alloc ?_ _)); refine blk_far ?_ NB316_317.out _; (with_reducible repeat (first | refine blk_drewN ?_ _ | refine blk_drew ?_ | refine blk_alloc ?_ _)); exact BK316.out) hb); have n4_ := Aside0.mk (blk_below (g := gb317) (o := .cells #[.slice Ao24 t323.length co24] 25 (0, 0)) (by (with_reducible repeat (first | refine blk_drewN ?_ _ | refine blk_drew ?_ | refine blk_alloc ?_ _)); refine blk_put (cs := #[.slice A1_0 l1_0.length c1_0]) ?_ 0 _ rfl; (with_reducible repeat (first | refine blk_drewN ?_ _ | refine blk_drew ?_ | refine blk_alloc ?_ _)); exact BK317.out) hb); have n5_ := Aside0.mk (blk_below (g := gb318) (o := .cells #[.slice A2_0 l2_0.length c2_0, .slice A2_1 l2_1.length c2_1] 39 (0, 0)) (by (with_reducible repeat (first | refine blk_drewN ?_ _ | refine blk_drew ?_ | refine blk_alloc ?_ _)); refine blk_far ?_ NB318_317.out _; (with_reducible repeat (first | refine blk_drewN ?_ _ | refine blk_drew ?_ | refine blk_alloc ?_ _)); exact BK318.out) hb); have n6_ := Aside0.mk (below_step (by repeat (first | (with_reducible first | exact HB.out | apply below_alloc | apply pw_below_drewN | apply below_drew1 | refine below_set ?_ GE316.out | refine below_set ?_ GE317.out | refine below_set ?_ GE318.out) | exact HB.out)) hb); clear HO322; clear HO325; clear BK316; clear BK317; clear BK318; clear HB; have HO322 := n0_; have HO325 := n1_; have HO328 := n2_; have BK316 := n3_; have BK317 := n4_; have BK318 := n5_; have HB := n6_; clear n0_ n1_ n2_ n3_ n4_ n5_ n6_; (try clear hb); (try clear hb2); (try clear hk); (try clear hi); (try clear ho0); have hcz28_0 : w27.cell? ⟨gb317, 0, none⟩ = some (.slice Ao24 t323.length co24) := (blk_cell BK317.out 0).trans rfl; have hfz28_0 := blk_frozen BK317.out 0) | ((with_reducible refine gate_callee (f := 10) rfl ?_); refine goesL_ (some 31) rfl rfl Try.func10 (by kernel_rfl) rfl #[.slice none 0 0, .agg #[.slice Ao24 t323.length co24]] rfl (by (try simp only [List.map_toArray, List.map_cons, List.map_nil]); first | done | rfl | (simp only [List.length_drop, List.length_take]; rfl)) ?_; (refine (qcode_Put.calls _ _ ([] : List Int) _ _ t323 t330 t333 _ ?side1 ?side2 ?side3 ?side4 A8.out).mono ?_); (case side1 => exact Kd.C_nil _ _); (case side2 => exact Nat.le_refl _); (case side3 => repeat (first | exact (Kd.N_reads' HO325.out).2.2 | (with_reducible refine Kd.C_alloc ?_ _) | (with_reducible refine Kd.C_drewN ?_ _) | (with_reducible refine Kd.C_drew ?_))); (case side4 => exact (Kd.N_reads' HO325.out).2.1); rintro e w29 ⟨v331, rfl, ho0, hb⟩; refine ⟨_, rfl, ?_⟩; have n0_ := Aside0.mk (Kd.N_elder' (by (with_reducible repeat (first | apply Kd.N_alloc | apply Kd.N_drewN | apply Kd.N_drew)); exact HO322.out) (Kd.R_base ho0) hb); have n1_ := Aside0.mk (Kd.N_elder' (by (with_reducible repeat (first | apply Kd.N_alloc | apply Kd.N_drewN | apply Kd.N_drew)); exact HO325.out) (Kd.R_base ho0) hb); have n2_ := Aside0.mk (Kd.R_elder' (by (with_reducible repeat (first | apply Kd.R_alloc | apply Kd.R_drewN | apply Kd.R_drew)); exact HO328.out) (Kd.R_base ho0) hb); have n3_ := Aside0.mk (Kd.R_lower (Kd.R_new' ho0 (Kd.R_lt (by (with_reducible repeat (first | apply Kd.R_alloc | apply Kd.R_drewN | apply Kd.R_drew)); exact HO328.out))) (below_size (by repeat (first | (with_reducible first | exact HB.out | apply below_alloc | apply pw_below_drewN | apply below_drew1 | refine below_set ?_ GE316.out | refine below_set ?_ GE317.out | refine below_set ?_ GE318.out) | exact HB.out)))); have n4_ := Aside0.mk (blk_below (g := gb316) (o := .cells #[.slice Ao18 t320.length co18] 25 (0, 0)) (by (with_reducible repeat (first | refine blk_drewN ?_ _ | refine blk_drew ?_ | refine blk_alloc ?_ _)); exact BK316.out) hb); have n5_ := Aside0.mk (blk_below (g := gb317) (o := .cells #[.slice Ao24 t323.length co24] 25 (0, 0)) (by (with_reducible repeat (first | refine blk_drewN ?_ _ | refine blk_drew ?_ | refine blk_alloc ?_ _)); exact BK317.out) hb); have n6_ := Aside0.mk (blk_below (g := gb318) (o := .cells #[.slice A2_0 l2_0.length c2_0, .slice A2_1 l2_1.length c2_1] 39 (0, 0)) (by (with_reducible repeat (first | refine blk_drewN ?_ _ | refine blk_drew ?_ | refine blk_alloc ?_ _)); exact BK318.out) hb); have n7_ := Aside0.mk (below_step (by repeat (first | (with_reducible first | exact HB.out | apply below_alloc | apply pw_below_drewN | apply below_drew1 | refine below_set ?_ GE316.out | refine below_set ?_ GE317.out | refine below_set ?_ GE318.out) | exact HB.out)) hb); clear HO322; clear HO325; clear HO328; clear BK316; clear BK317; clear BK318; clear HB; have HO322 := n0_; have HO325 := n1_; have HO328 := n2_; have HO332 := n3_; have BK316 := n4_; have BK317 := n5_; have BK318 := n6_; have HB := n7_; clear n0_ n1_ n2_ n3_ n4_ n5_ n6_ n7_; (try clear hb); (try clear hb2); (try clear hk); (try clear hi); (try clear ho0)))
  (try simp only [Act.put, List.setIfInBounds_toArray, List.set_cons_zero, List.set_cons_succ])
  go_cut [39] (fun v39 wc => ∃ (kq : Nat) (x39_8 : Bool), v39 = .bool x39_8 ∧ Aside0 (registrarlaw07_QcodeApart.j0 kq t319 t326 t330 x39_8 t320 t323 l2_0 l2_1 = some r) ∧ Aside0 (kq ≤ k) ∧ Aside0 (Kd.R (Kd.int .u8) 5 wc w.heap.size (fun k_ => some k_ ≠ (v331 : Value).ownBlock) v327 t326) ∧ Aside0 (Kd.R (Kd.int .u8) 5 wc w.heap.size (fun k_ => some k_ ≠ (v327 : Value).ownBlock) v331 t330) ∧ Aside0 (Kd.N k60 60 wc w.heap.size (fun k_ => some k_ ≠ (v327 : Value).ownBlock ∧ some k_ ≠ (v331 : Value).ownBlock ∧ some k_ ≠ ((.slice Ao24 t323.length co24) : Value).ownBlock ∧ k_ ≠ gb316 ∧ k_ ≠ gb317 ∧ k_ ≠ gb318) (.slice Ao18 t320.length co18) t320) ∧ Aside0 (Kd.N k60 60 wc w.heap.size (fun k_ => some k_ ≠ (v327 : Value).ownBlock ∧ some k_ ≠ (v331 : Value).ownBlock ∧ some k_ ≠ ((.slice Ao18 t320.length co18) : Value).ownBlock ∧ k_ ≠ gb316 ∧ k_ ≠ gb317 ∧ k_ ≠ gb318) (.slice Ao24 t323.length co24) t323) ∧ Aside0 (wc.heap[gb316]? = some (.cells #[(.slice Ao18 t320.length co18)] 25 (0, 0))) ∧ Aside0 (wc.heap[gb317]? = some (.cells #[(.slice Ao24 t323.length co24)] 25 (0, 0))) ∧ Aside0 (wc.heap[gb318]? = some (.cells #[(.slice A2_0 l2_0.length c2_0), (.slice A2_1 l2_1.length c2_1)] 39 (0, 0))) ∧ Aside0 (Below w.heap.size w wc))
  case first =>
    have H := HC9.out
    clear HC9
    by_cases c30 : t329 = 0
    · rw [if_pos c30] at H
      have c30b0 : (t329 == 0) = true := beq_iff_eq.mpr c30
      have c30b1 : (t329 != 0) = false := bne_eq_false_iff_eq.mpr c30
      clear c30
      (first | rw [c30b0] | (simp only [i64_w, i32_w]; rw [c30b0]) | skip)
      have H' := Aside0.mk H
      clear H
      go_wp2
      go_meet
      case rel => exact ⟨_, ((t333 == 0)), (by first | rfl | (simp; done) | (simp [*]; done)), H', ⟨by first | omega | exact Nat.le_refl _⟩, ⟨by (with_reducible repeat (first | apply Kd.R_alloc | apply Kd.R_drewN | apply Kd.R_drew)); exact Kd.R_mono HO328.out (fun _ hk => hk.2)⟩, ⟨by (with_reducible repeat (first | apply Kd.R_alloc | apply Kd.R_drewN | apply Kd.R_drew)); exact Kd.R_mono HO332.out (fun _ hk => hk.2)⟩, ⟨by (with_reducible repeat (first | apply Kd.N_alloc | apply Kd.N_drewN | apply Kd.N_drew)); exact Kd.N_mono HO322.out (fun _ hk => ⟨hk.1.2, ⟨hk.2, ⟨hk.1.1.2, ⟨hk.1.1.1.1, ⟨hk.1.1.1.2.1, hk.1.1.1.2.2⟩⟩⟩⟩⟩)⟩, ⟨by (with_reducible repeat (first | apply Kd.N_alloc | apply Kd.N_drewN | apply Kd.N_drew)); exact Kd.N_mono HO325.out (fun _ hk => ⟨hk.1.2, ⟨hk.2, ⟨hk.1.1.1, ⟨hk.1.1.2.1, ⟨hk.1.1.2.2.1, hk.1.1.2.2.2⟩⟩⟩⟩⟩)⟩, ⟨by (with_reducible repeat (first | refine blk_drewN ?_ _ | refine blk_drew ?_ | refine blk_alloc ?_ _)); exact BK316.out⟩, ⟨by (with_reducible repeat (first | refine blk_drewN ?_ _ | refine blk_drew ?_ | refine blk_alloc ?_ _)); exact BK317.out⟩, ⟨by (with_reducible repeat (first | refine blk_drewN ?_ _ | refine blk_drew ?_ | refine blk_alloc ?_ _)); exact BK318.out⟩, ⟨by repeat (first | (with_reducible first | exact HB.out | apply below_alloc | apply pw_below_drewN | apply below_drew1 | refine below_set ?_ GE316.out | refine below_set ?_ GE317.out | refine below_set ?_ GE318.out) | exact HB.out)⟩⟩
    · rw [if_neg c30] at H
      have c30b0 : (t329 == 0) = false := beq_eq_false_iff_ne.mpr c30
      have c30b1 : (t329 != 0) = true := bne_iff_ne.mpr c30
      (first | rw [c30b0] | (simp only [i64_w, i32_w]; rw [c30b0]) | skip)
      have H' := Aside0.mk H
      clear H
      go_wp2
      go_meet
      case rel => exact ⟨_, (false), (by first | rfl | (simp; done) | (simp [*]; done)), H', ⟨by first | omega | exact Nat.le_refl _⟩, ⟨by (with_reducible repeat (first | apply Kd.R_alloc | apply Kd.R_drewN | apply Kd.R_drew)); exact Kd.R_mono HO328.out (fun _ hk => hk.2)⟩, ⟨by (with_reducible repeat (first | apply Kd.R_alloc | apply Kd.R_drewN | apply Kd.R_drew)); exact Kd.R_mono HO332.out (fun _ hk => hk.2)⟩, ⟨by (with_reducible repeat (first | apply Kd.N_alloc | apply Kd.N_drewN | apply Kd.N_drew)); exact Kd.N_mono HO322.out (fun _ hk => ⟨hk.1.2, ⟨hk.2, ⟨hk.1.1.2, ⟨hk.1.1.1.1, ⟨hk.1.1.1.2.1, hk.1.1.1.2.2⟩⟩⟩⟩⟩)⟩, ⟨by (with_reducible repeat (first | apply Kd.N_alloc | apply Kd.N_drewN | apply Kd.N_drew)); exact Kd.N_mono HO325.out (fun _ hk => ⟨hk.1.2, ⟨hk.2, ⟨hk.1.1.1, ⟨hk.1.1.2.1, ⟨hk.1.1.2.2.1, hk.1.1.2.2.2⟩⟩⟩⟩⟩)⟩, ⟨by (with_reducible repeat (first | refine blk_drewN ?_ _ | refine blk_drew ?_ | refine blk_alloc ?_ _)); exact BK316.out⟩, ⟨by (with_reducible repeat (first | refine blk_drewN ?_ _ | refine blk_drew ?_ | refine blk_alloc ?_ _)); exact BK317.out⟩, ⟨by (with_reducible repeat (first | refine blk_drewN ?_ _ | refine blk_drew ?_ | refine blk_alloc ?_ _)); exact BK318.out⟩, ⟨by repeat (first | (with_reducible first | exact HB.out | apply below_alloc | apply pw_below_drewN | apply below_drew1 | refine below_set ?_ GE316.out | refine below_set ?_ GE317.out | refine below_set ?_ GE318.out) | exact HB.out)⟩⟩
  case rest =>
    clear HC9
    try clear c1
    try clear c2
    try clear p2
    try clear c3
    try clear c4
    try clear c9
    try clear c10
    try clear c11
    try clear c14
    try clear c15
    try clear c21
    try clear c30
    try clear c30b0
    try clear c30b1
    try clear hcz16_0
    try clear hcz19_0
    try clear hcz22_0
    try clear hcz25_0
    try clear hcz26_0
    try clear hcz28_0
    try clear hfz16_0
    try clear hfz19_0
    try clear hfz22_0
    try clear hfz25_0
    try clear hfz26_0
    try clear hfz28_0
    obtain ⟨kq, x39_8, rfl, HA, HJ8, HO_8, HO_10, HO_317000, HO_318000, BK316, BK317, BK318, HB⟩ := hcut
    cases kq with
    | zero => exact absurd HA.out (by simp [registrarlaw07_QcodeApart.j0])
    | succ kj8 =>
      have H := HA.out
      clear HA
      simp only [registrarlaw07_QcodeApart.j0] at H
      have HC31 := Aside0.mk H
      clear H
      go_upto_if 39 with (fail)
      go_cut [] (fun wc => ∃ (kq : Nat), Aside0 (registrarlaw07_QcodeApart.j1 kq t319 l2_0 l2_1 = some r) ∧ Aside0 (kq ≤ kj8) ∧ Aside0 (Kd.N k60 60 wc w.heap.size (fun k_ => some k_ ≠ ((.slice Ao24 t323.length co24) : Value).ownBlock ∧ k_ ≠ gb316 ∧ k_ ≠ gb317 ∧ k_ ≠ gb318) (.slice Ao18 t320.length co18) t320) ∧ Aside0 (Kd.N k60 60 wc w.heap.size (fun k_ => some k_ ≠ ((.slice Ao18 t320.length co18) : Value).ownBlock ∧ k_ ≠ gb316 ∧ k_ ≠ gb317 ∧ k_ ≠ gb318) (.slice Ao24 t323.length co24) t323) ∧ Aside0 (wc.heap[gb316]? = some (.cells #[(.slice Ao18 t320.length co18)] 25 (0, 0))) ∧ Aside0 (wc.heap[gb317]? = some (.cells #[(.slice Ao24 t323.length co24)] 25 (0, 0))) ∧ Aside0 (wc.heap[gb318]? = some (.cells #[(.slice A2_0 l2_0.length c2_0), (.slice A2_1 l2_1.length c2_1)] 39 (0, 0))) ∧ Aside0 (Below w.heap.size w wc))
      case first =>
        have H := HC31.out
        clear HC31
        by_cases c32 : x39_8 = true
        · subst c32
          have H1 : ((registrarref06_SameG.f t320 t323).bind fun t334 => (if (t330.length : Int) ≥ (t326.length : Int) then (if 0 ≤ (t326.length : Int) then (if (t326.length : Int) ≤ (t330.length : Int) then (if (((strOfNums (t330.take ((t326.length : Int) : Int).toNat)).toList == (strOfNums t326).toList) != t334) = true then (some false) else (registrarlaw07_QcodeApart.j1 kj8 t319 l2_0 l2_1)) else (none)) else (none)) else (if (false != t334) = true then (some false) else (registrarlaw07_QcodeApart.j1 kj8 t319 l2_0 l2_1)))) = some r := by rw [if_pos rfl] at H; exact H
          clear H
          have H := H1
          clear H1
          replace H := Option.bind_eq_some_iff.mp H
          obtain ⟨t334, A330, H⟩ := H
          replace H : (if (t330.length : Int) ≥ (t326.length : Int) then (if 0 ≤ (t326.length : Int) then (if (t326.length : Int) ≤ (t330.length : Int) then (if (((strOfNums (t330.take ((t326.length : Int) : Int).toNat)).toList == (strOfNums t326).toList) != t334) = true then (some false) else (registrarlaw07_QcodeApart.j1 kj8 t319 l2_0 l2_1)) else (none)) else (none)) else (if (false != t334) = true then (some false) else (registrarlaw07_QcodeApart.j1 kj8 t319 l2_0 l2_1))) = some r := H
          have A33 := Aside0.mk A330
          clear A330
          by_cases c34 : (t330.length : Int) ≥ (t326.length : Int)
          · rw [if_pos c34] at H
            have c34b0 : decide ((t326.length : Int) ≤ (t330.length : Int)) = true := decide_eq_true c34
            have c34b1 : decide (t326.length ≤ t330.length) = true := decide_eq_true (Int.ofNat_le.mp c34)
            clear c34
            (first | rw [c34b0] | (simp only [i64_w, i32_w]; rw [c34b0]) | skip)
            by_cases c35 : 0 ≤ (t326.length : Int)
            · rw [if_pos c35] at H
              have c35b0 := eq_true c35
              have c35b1 : decide (0 ≤ (t326.length : Int)) = true := decide_eq_true c35
              clear c35
              by_cases c36 : (t326.length : Int) ≤ (t330.length : Int)
              · rw [if_pos c36] at H
                have c36b0 := eq_true c36
                have c36b1 : decide ((t326.length : Int) ≤ (t330.length : Int)) = true := decide_eq_true c36
                clear c36
                obtain ⟨y335, hy335⟩ : ∃ y_ : List Int, y_ = (t330.take ((t326.length : Int) : Int).toNat) := ⟨_, rfl⟩
                replace H : (if (((strOfNums y335).toList == (strOfNums t326).toList) != t334) = true then (some false) else (registrarlaw07_QcodeApart.j1 kj8 t319 l2_0 l2_1)) = some r := by first | (rw [hy335]; with_reducible exact H) | (have H2_ := (Option.bind_some _ _).symm.trans H; rw [hy335]; with_reducible exact H2_) | (have H2_ := (Option.bind_some _ _).symm.trans H; with_reducible exact H2_) | with_reducible exact H | (rw [hy335]; exact H) | exact H
                have Ny335 := Aside0.mk hy335
                clear hy335
                by_cases c37 : (((strOfNums y335).toList == (strOfNums t326).toList) != t334) = true
                · rw [if_pos c37] at H
                  have c37b0 : (((strOfNums y335).toList == (strOfNums t326).toList) != t334) = true := c37
                  (try (have c37b1 : decide (((strOfNums y335).toList == (strOfNums t326).toList) = t334) = false := by simpa using c37))
                  (try (have c37b2 : (((strOfNums y335).toList == (strOfNums t326).toList) == t334) = false := by simpa using c37))
                  (try (have c37b3 : ¬ (((strOfNums y335).toList == (strOfNums t326).toList) = t334) := by simpa using c37))
                  clear c37
                  obtain rfl := Option.some.inj H
                  have hnb38 := NB316_317.out
                  have hnc38 := NB317_316.out
                  have hnb39 := NB316_318.out
                  have hnc39 := NB318_316.out
                  have hcz40_0 : wc.cell? ⟨gb316, 0, none⟩ = some (.slice Ao18 t320.length co18) := (blk_cell BK316.out 0).trans rfl
                  have hfz40_0 := blk_frozen BK316.out 0
                  have hnb41 := NB317_318.out
                  have hnc41 := NB318_317.out
                  have hcz42_0 : wc.cell? ⟨gb317, 0, none⟩ = some (.slice Ao24 t323.length co24) := (blk_cell BK317.out 0).trans rfl
                  have hfz42_0 := blk_frozen BK317.out 0
                  try go_wp2_with (first | ((with_reducible refine gate_callee (f := 18) rfl ?_); refine goesL_ (some 42) rfl rfl Try.func18 (by kernel_rfl) rfl #[.agg #[.slice Ao18 t320.length co18], .agg #[.slice Ao24 t323.length co24]] rfl (by (try simp only [List.map_toArray, List.map_cons, List.map_nil]); first | done | rfl | (simp only [List.length_drop, List.length_take]; rfl)) ?_; (with_reducible refine (registrarref06_SameG.calls _ _ t320 _ _ t323 t334 _ ?side1 ?side2 ?side3 ?side4 A33.out).mono ?_); (case side1 => repeat (first | exact (Kd.N_reads' HO_317000.out).2.2 | (with_reducible refine Kd.C_alloc ?_ _) | (with_reducible refine Kd.C_drewN ?_ _) | (with_reducible refine Kd.C_drew ?_))); (case side2 => exact (Kd.N_reads' HO_317000.out).2.1); (case side3 => repeat (first | exact (Kd.N_reads' HO_318000.out).2.2 | (with_reducible refine Kd.C_alloc ?_ _) | (with_reducible refine Kd.C_drewN ?_ _) | (with_reducible refine Kd.C_drew ?_))); (case side4 => exact (Kd.N_reads' HO_318000.out).2.1); rintro e w43 ⟨rfl, hb⟩; refine ⟨_, rfl, ?_⟩; have n0_ := Aside0.mk (Kd.R_below (by (with_reducible repeat (first | apply Kd.R_alloc | apply Kd.R_drewN | apply Kd.R_drew)); exact HO_8.out) hb); have n1_ := Aside0.mk (Kd.R_below (by (with_reducible repeat (first | apply Kd.R_alloc | apply Kd.R_drewN | apply Kd.R_drew)); exact HO_10.out) hb); have n2_ := Aside0.mk (Kd.N_below (by (with_reducible repeat (first | apply Kd.N_alloc | apply Kd.N_drewN | apply Kd.N_drew)); exact HO_317000.out) hb); have n3_ := Aside0.mk (Kd.N_below (by (with_reducible repeat (first | apply Kd.N_alloc | apply Kd.N_drewN | apply Kd.N_drew)); exact HO_318000.out) hb); have n4_ := Aside0.mk (blk_below (g := gb316) (o := .cells #[.slice Ao18 t320.length co18] 25 (0, 0)) (by (with_reducible repeat (first | refine blk_drewN ?_ _ | refine blk_drew ?_ | refine blk_alloc ?_ _)); exact BK316.out) hb); have n5_ := Aside0.mk (blk_below (g := gb317) (o := .cells #[.slice Ao24 t323.length co24] 25 (0, 0)) (by (with_reducible repeat (first | refine blk_drewN ?_ _ | refine blk_drew ?_ | refine blk_alloc ?_ _)); exact BK317.out) hb); have n6_ := Aside0.mk (blk_below (g := gb318) (o := .cells #[.slice A2_0 l2_0.length c2_0, .slice A2_1 l2_1.length c2_1] 39 (0, 0)) (by (with_reducible repeat (first | refine blk_drewN ?_ _ | refine blk_drew ?_ | refine blk_alloc ?_ _)); exact BK318.out) hb); have n7_ := Aside0.mk (below_step (by repeat (first | (with_reducible first | exact HB.out | apply below_alloc | apply pw_below_drewN | apply below_drew1 | refine below_set ?_ GE316.out | refine below_set ?_ GE317.out | refine below_set ?_ GE318.out) | exact HB.out)) hb); clear HO_8; clear HO_10; clear HO_317000; clear HO_318000; clear BK316; clear BK317; clear BK318; clear HB; have HO_8 := n0_; have HO_10 := n1_; have HO_317000 := n2_; have HO_318000 := n3_; have BK316 := n4_; have BK317 := n5_; have BK318 := n6_; have HB := n7_; clear n0_ n1_ n2_ n3_ n4_ n5_ n6_ n7_; (try clear hb); (try clear hb2); (try clear hk); (try clear hi)))
                  have n0_ := Aside0.mk (Kd.R_drew HO_8.out)
                  have n1_ := Aside0.mk (Kd.R_drew HO_10.out)
                  have n2_ := Aside0.mk (Kd.N_drew HO_317000.out)
                  have n3_ := Aside0.mk (Kd.N_drew HO_318000.out)
                  have n4_ := Aside0.mk (blk_drew BK316.out)
                  have n5_ := Aside0.mk (blk_drew BK317.out)
                  have n6_ := Aside0.mk (blk_drew BK318.out)
                  have n7_ := Aside0.mk (below_drew1 HB.out)
                  clear HO_8
                  clear HO_10
                  clear HO_317000
                  clear HO_318000
                  clear BK316
                  clear BK317
                  clear BK318
                  clear HB
                  have HO_8 := n0_
                  have HO_10 := n1_
                  have HO_317000 := n2_
                  have HO_318000 := n3_
                  have BK316 := n4_
                  have BK317 := n5_
                  have BK318 := n6_
                  have HB := n7_
                  clear n0_ n1_ n2_ n3_ n4_ n5_ n6_ n7_
                  obtain ⟨Ao45, co45, eo45⟩ := Kd.R_slice HO_10.out
                  (first | subst eo45 | (injection eo45 with f1_ f2_ f3_; have f4_ := f1_.symm; have f5_ := f3_.symm; clear f1_ f2_ f3_; subst f4_; subst f5_))
                  obtain ⟨Ao46, co46, eo46⟩ := Kd.R_slice HO_8.out
                  (first | subst eo46 | (injection eo46 with f1_ f2_ f3_; have f4_ := f1_.symm; have f5_ := f3_.symm; clear f1_ f2_ f3_; subst f4_; subst f5_))
                  have q47 : ((t326.length : Int) : Int) ≤ ((t330.length : Int) : Int) := of_decide_eq_true (by first | (with_reducible assumption) | assumption)
                  obtain ⟨i047, hi047, _, hsz47, _⟩ := info_parts info5
                  have hroom47 : t330.length ≤ co45 := (Kd.R_reads' HO_10.out).2.1
                  have hC47 : Kd.F (Kd.int .u8) _ _ Ao45 t330.length t330 := (Kd.V_at (base := w.heap.size) (Kd.R_V (Kd.R_types (Kd.R_types (Kd.R_types (Kd.R_apart' (Kd.R_apart' (HO_10.out) (Kd.N_typed HO_317000.out) (by decide)) (Kd.N_typed HO_318000.out) (by decide)) BK316.out (by decide)) BK317.out (by decide)) BK318.out (by decide)))).2.2
                  have hcut47 := cut_to (P := Try.prog) 22 5 .i64 Try.underlying22 hi047 Ao45 t330.length co45 (t326.length : Int) (of_decide_eq_true (by first | (with_reducible assumption) | assumption)) q47 hroom47
                  have hr47 := Kd.F_take (m := ((t326.length : Int) : Int).toNat) hC47 (by omega)
                  have hy47 : y335.length = ((t326.length : Int) : Int).toNat := (by rw [Ny335.out, List.length_take]; omega)
                  rw [← Ny335.out] at hr47
                  rw [← hy47] at hcut47
                  have HO339 := Aside0.mk (show Kd.V (Kd.int .u8) 5 _ w.heap.size _ (.slice Ao45 y335.length co45) y335 from Kd.V_mk (by omega) hr47)
                  have HC339 := Aside0.mk (show y335.length ≤ co45 from by omega)
                  clear hr47 hC47 hroom47 hi047 hsz47
                  have KY47 := Aside0.mk hy47
                  clear hy47
                  replace q47 := eq_true q47
                  have hcv49 := own_string (P := Try.prog) Try.underlying22 Try.underlying5 Try.underlying9 (Kd.own_of_R HO_8.out)
                  refine start_ (n := 16) (S := fun w' => (convert 22 9 (.slice Ao46 t326.length co46)).run Try.prog w' = .ok (.string (strOfNums t326)) w') (ds := []) #[false, false, false, false, false, false, false, false, false, false, false, false, false, false, false, false] (by kernel_rfl) rfl rfl (own_string Try.underlying22 Try.underlying5 Try.underlying9 (Kd.own_of_R HO_8.out)) (fun hHeld => ?_); refine with_tabW registrarlaw07_QcodeApart.tab8 registrarlaw07_QcodeApart.bits8 (fun HT_ HW_ => ?_)
                  generalize w43.drew = w44 at HO_8 HO_10 HO_317000 HO_318000 BK316 BK317 BK318 HB HO339 hHeld ⊢
                  refine pure_ (i := 0) (N := some 43) (v := ?_) (a' := ?_) #[true, false, false, false, false, false, false, false, false, false, false, false, false, false, false, false] rfl rfl (any_of HT_.out (by kernel_rfl)) (fun _ _ _ h => h) (Or.inl ⟨by rfl, ?_⟩) ?_ ?_
                  rotate_left
                  · intro w'
                    go_simp
                    with_reducible rfl
                  rotate_left
                  · simp only [Act.put, List.setIfInBounds_toArray, List.set_cons_zero, List.set_cons_succ, i64_w, i32_w]
                    rfl
                  refine pure_ (i := 1) (N := some 44) (v := ?_) (a' := ?_) #[true, true, false, false, false, false, false, false, false, false, false, false, false, false, false, false] rfl rfl (any_of HT_.out (by kernel_rfl)) (fun _ _ _ h => h) (Or.inl ⟨by rfl, ?_⟩) ?_ ?_
                  rotate_left
                  · intro w'
                    go_simp
                    with_reducible rfl
                  rotate_left
                  · simp only [Act.put, List.setIfInBounds_toArray, List.set_cons_zero, List.set_cons_succ, i64_w, i32_w]
                    rfl
                  refine pure_ (i := 2) (N := some 45) (v := ?_) (a' := ?_) #[true, true, true, false, false, false, false, false, false, false, false, false, false, false, false, false] rfl rfl (any_of HT_.out (by kernel_rfl)) (fun _ _ _ h => h) (Or.inl ⟨by rfl, ?_⟩) ?_ ?_
                  rotate_left
                  · intro w'
                    go_simp
                    with_reducible rfl
                  rotate_left
                  · simp only [Act.put, List.setIfInBounds_toArray, List.set_cons_zero, List.set_cons_succ, i64_w, i32_w]
                    rfl
                  refine pure_ (i := 3) (N := some 46) (v := ?_) (a' := ?_) #[true, true, true, true, false, false, false, false, false, false, false, false, false, false, false, false] rfl rfl (any_of HT_.out (by kernel_rfl)) (fun _ _ _ h => h) (Or.inl ⟨by rfl, ?_⟩) ?_ ?_
                  rotate_left
                  · intro w'
                    go_simp
                    with_reducible rfl
                  rotate_left
                  · simp only [Act.put, List.setIfInBounds_toArray, List.set_cons_zero, List.set_cons_succ, i64_w, i32_w]
                    rfl
                  refine pure_ (i := 4) (N := some 47) (v := ?_) (a' := ?_) #[true, true, true, true, true, false, false, false, false, false, false, false, false, false, false, false] rfl rfl (any_of HT_.out (by kernel_rfl)) (fun _ _ _ h => h) (Or.inl ⟨by rfl, ?_⟩) ?_ ?_
                  rotate_left
                  · intro w'
                    go_simp
                    with_reducible rfl
                  rotate_left
                  · simp only [Act.put, List.setIfInBounds_toArray, List.set_cons_zero, List.set_cons_succ, i64_w, i32_w]
                    rfl
                  refine pure_ (i := 5) (N := some 48) (v := ?_) (a' := ?_) #[true, true, true, true, true, true, false, false, false, false, false, false, false, false, false, false] rfl rfl (any_of HT_.out (by kernel_rfl)) (fun _ _ _ h => h) (Or.inl ⟨by rfl, ?_⟩) ?_ ?_
                  rotate_left
                  · intro w'
                    go_simp
                    with_reducible rfl
                  rotate_left
                  · simp only [Act.put, List.setIfInBounds_toArray, List.set_cons_zero, List.set_cons_succ, i64_w, i32_w]
                    rfl
                  refine pure_ (i := 6) (N := some 49) (v := ?_) (a' := ?_) #[true, true, true, true, true, true, true, false, false, false, false, false, false, false, false, false] rfl rfl (any_of HT_.out (by kernel_rfl)) (fun _ _ _ h => h) (Or.inl ⟨by rfl, ?_⟩) ?_ ?_
                  rotate_left
                  · intro w'
                    go_simp
                    with_reducible rfl
                  rotate_left
                  · simp only [Act.put, List.setIfInBounds_toArray, List.set_cons_zero, List.set_cons_succ, i64_w, i32_w]
                    rfl
                  refine pure_ (i := 7) (N := some 50) (v := ?_) (a' := ?_) #[true, true, true, true, true, true, true, true, false, false, false, false, false, false, false, false] rfl rfl (any_of HT_.out (by kernel_rfl)) (fun _ _ _ h => h) (Or.inl ⟨by rfl, ?_⟩) ?_ ?_
                  rotate_left
                  · intro w'
                    go_simp
                    with_reducible rfl
                  rotate_left
                  · simp only [Act.put, List.setIfInBounds_toArray, List.set_cons_zero, List.set_cons_succ, i64_w, i32_w]
                    rfl
                  refine pure_ (i := 8) (N := some 51) (v := ?_) (a' := ?_) #[true, true, true, true, true, true, true, true, true, false, false, false, false, false, false, false] rfl rfl (any_of HT_.out (by kernel_rfl)) (fun _ _ _ h => h) (Or.inl ⟨by rfl, ?_⟩) ?_ ?_
                  rotate_left
                  · intro w'
                    go_simp
                    with_reducible rfl
                  rotate_left
                  · simp only [Act.put, List.setIfInBounds_toArray, List.set_cons_zero, List.set_cons_succ, i64_w, i32_w]
                    rfl
                  refine pure_ (i := 9) (N := some 52) (v := ?_) (a' := ?_) #[true, true, true, true, true, true, true, true, true, true, false, false, false, false, false, false] rfl rfl (any_of HT_.out (by kernel_rfl)) (fun _ _ _ h => h) (Or.inl ⟨by rfl, ?_⟩) ?_ ?_
                  rotate_left
                  · intro w'
                    go_simp
                    with_reducible rfl
                  rotate_left
                  · simp only [Act.put, List.setIfInBounds_toArray, List.set_cons_zero, List.set_cons_succ, i64_w, i32_w]
                    rfl
                  refine pure_ (i := 11) (N := some 54) (v := ?_) (a' := ?_) #[true, true, true, true, true, true, true, true, true, true, false, true, false, false, false, false] rfl rfl (any_of HT_.out (by kernel_rfl)) (fun _ _ _ h => h) (Or.inl ⟨by rfl, ?_⟩) ?_ ?_
                  rotate_left
                  · intro w'
                    go_simp
                    with_reducible rfl
                  rotate_left
                  · simp only [Act.put, List.setIfInBounds_toArray, List.set_cons_zero, List.set_cons_succ, i64_w, i32_w]
                    rfl
                  refine take_ (i := 12) (N := some 55) (v := ?_) (a' := ?_) #[true, true, true, true, true, true, true, true, true, true, false, true, true, false, false, false] rfl rfl (take_ofW HT_.out HW_.out (by kernel_rfl)) (fun _ _ _ h => h) (Or.inl ⟨by rfl, ?_⟩) hHeld ?_ ?_
                  rotate_left
                  · rintro w' s0
                    go_simp
                    with_reducible rfl
                  rotate_left
                  · simp only [Act.put, List.setIfInBounds_toArray, List.set_cons_zero, List.set_cons_succ, i64_w, i32_w]
                    rfl
                  refine one_ (i := 10) (N := some 53) #[true, true, true, true, true, true, true, true, true, true, true, true, true, false, false, false] rfl rfl (one_of HT_.out (by kernel_rfl)) (by decide) (fun K hK => ?_)
                  have hcv48 := Kd.C_string (P := Try.prog) (c := co45) Try.underlying22 Try.underlying5 Try.underlying9 (Kd.V_reads' HO339.out).2.2
                  refine value_ (w1 := ?_) (v := ?_) (by rfl) rfl ?_ ?_
                  rotate_left 2
                  · go_simp
                    constructor
                    · rfl
                    · rfl
                  clear hcv48
                  refine hK.out _ _ (own_string Try.underlying22 Try.underlying5 Try.underlying9 (Kd.own_of_R HO_8.out)) (fun hHeld => ?_)
                  clear hK K
                  refine norm_ (a' := ?_) ?_ ?_
                  rotate_left
                  · show Act.put _ (some 53) _ = _
                    simp only [Act.put, List.setIfInBounds_toArray, List.set_cons_zero, List.set_cons_succ, i64_w, i32_w]
                    rfl
                  refine pure_ (i := 13) (N := some 56) (v := ?_) (a' := ?_) #[true, true, true, true, true, true, true, true, true, true, true, true, true, true, false, false] rfl rfl (any_of HT_.out (by kernel_rfl)) (fun _ _ _ h => h) (Or.inl ⟨by rfl, ?_⟩) ?_ ?_
                  rotate_left
                  · intro w'
                    go_simp
                    with_reducible rfl
                  rotate_left
                  · simp only [Act.put, List.setIfInBounds_toArray, List.set_cons_zero, List.set_cons_succ, i64_w, i32_w]
                    rfl
                  refine pure_ (i := 14) (N := some 57) (v := ?_) (a' := ?_) #[true, true, true, true, true, true, true, true, true, true, true, true, true, true, true, false] rfl rfl (any_of HT_.out (by kernel_rfl)) (fun _ _ _ h => h) (Or.inl ⟨by rfl, ?_⟩) ?_ ?_
                  rotate_left
                  · intro w'
                    go_simp
                    with_reducible rfl
                  rotate_left
                  · simp only [Act.put, List.setIfInBounds_toArray, List.set_cons_zero, List.set_cons_succ, i64_w, i32_w]
                    rfl
                  refine pure_ (i := 15) (N := some 13) (v := ?_) (a' := ?_) #[true, true, true, true, true, true, true, true, true, true, true, true, true, true, true, true] rfl rfl (any_of HT_.out (by kernel_rfl)) (fun _ _ _ h => h) (Or.inl ⟨by rfl, ?_⟩) ?_ ?_
                  rotate_left
                  · intro w'
                    go_simp
                    with_reducible rfl
                  rotate_left
                  · simp only [Act.put, List.setIfInBounds_toArray, List.set_cons_zero, List.set_cons_succ, i64_w, i32_w]
                    rfl
                  refine done_ (done_of HT_.out (by kernel_rfl)) ?_
                  try go_wp2
                  go_ret
                  exact ⟨by first | rfl | (simp [errW_none, errW_some] <;> rfl) | (simp [*, errW_none, errW_some] <;> rfl), by repeat (first | (with_reducible first | exact HB.out | apply below_alloc | apply pw_below_drewN | apply below_drew1 | refine below_set ?_ GE316.out | refine below_set ?_ GE317.out | refine below_set ?_ GE318.out) | exact HB.out)⟩
                · rw [if_neg c37] at H
                  have c37b0 : (((strOfNums y335).toList == (strOfNums t326).toList) != t334) = false := by simpa using c37
                  (try (have c37b1 : decide (((strOfNums y335).toList == (strOfNums t326).toList) = t334) = true := by simpa using c37))
                  (try (have c37b2 : (((strOfNums y335).toList == (strOfNums t326).toList) == t334) = true := by simpa using c37))
                  clear c37
                  have H' := Aside0.mk H
                  clear H
                  have hnb51 := NB316_317.out
                  have hnc51 := NB317_316.out
                  have hnb52 := NB316_318.out
                  have hnc52 := NB318_316.out
                  have hcz53_0 : wc.cell? ⟨gb316, 0, none⟩ = some (.slice Ao18 t320.length co18) := (blk_cell BK316.out 0).trans rfl
                  have hfz53_0 := blk_frozen BK316.out 0
                  have hnb54 := NB317_318.out
                  have hnc54 := NB318_317.out
                  have hcz55_0 : wc.cell? ⟨gb317, 0, none⟩ = some (.slice Ao24 t323.length co24) := (blk_cell BK317.out 0).trans rfl
                  have hfz55_0 := blk_frozen BK317.out 0
                  try go_wp2_with (first | ((with_reducible refine gate_callee (f := 18) rfl ?_); refine goesL_ (some 42) rfl rfl Try.func18 (by kernel_rfl) rfl #[.agg #[.slice Ao18 t320.length co18], .agg #[.slice Ao24 t323.length co24]] rfl (by (try simp only [List.map_toArray, List.map_cons, List.map_nil]); first | done | rfl | (simp only [List.length_drop, List.length_take]; rfl)) ?_; (with_reducible refine (registrarref06_SameG.calls _ _ t320 _ _ t323 t334 _ ?side1 ?side2 ?side3 ?side4 A33.out).mono ?_); (case side1 => repeat (first | exact (Kd.N_reads' HO_317000.out).2.2 | (with_reducible refine Kd.C_alloc ?_ _) | (with_reducible refine Kd.C_drewN ?_ _) | (with_reducible refine Kd.C_drew ?_))); (case side2 => exact (Kd.N_reads' HO_317000.out).2.1); (case side3 => repeat (first | exact (Kd.N_reads' HO_318000.out).2.2 | (with_reducible refine Kd.C_alloc ?_ _) | (with_reducible refine Kd.C_drewN ?_ _) | (with_reducible refine Kd.C_drew ?_))); (case side4 => exact (Kd.N_reads' HO_318000.out).2.1); rintro e w56 ⟨rfl, hb⟩; refine ⟨_, rfl, ?_⟩; have n0_ := Aside0.mk (Kd.R_below (by (with_reducible repeat (first | apply Kd.R_alloc | apply Kd.R_drewN | apply Kd.R_drew)); exact HO_8.out) hb); have n1_ := Aside0.mk (Kd.R_below (by (with_reducible repeat (first | apply Kd.R_alloc | apply Kd.R_drewN | apply Kd.R_drew)); exact HO_10.out) hb); have n2_ := Aside0.mk (Kd.N_below (by (with_reducible repeat (first | apply Kd.N_alloc | apply Kd.N_drewN | apply Kd.N_drew)); exact HO_317000.out) hb); have n3_ := Aside0.mk (Kd.N_below (by (with_reducible repeat (first | apply Kd.N_alloc | apply Kd.N_drewN | apply Kd.N_drew)); exact HO_318000.out) hb); have n4_ := Aside0.mk (blk_below (g := gb316) (o := .cells #[.slice Ao18 t320.length co18] 25 (0, 0)) (by (with_reducible repeat (first | refine blk_drewN ?_ _ | refine blk_drew ?_ | refine blk_alloc ?_ _)); exact BK316.out) hb); have n5_ := Aside0.mk (blk_below (g := gb317) (o := .cells #[.slice Ao24 t323.length co24] 25 (0, 0)) (by (with_reducible repeat (first | refine blk_drewN ?_ _ | refine blk_drew ?_ | refine blk_alloc ?_ _)); exact BK317.out) hb); have n6_ := Aside0.mk (blk_below (g := gb318) (o := .cells #[.slice A2_0 l2_0.length c2_0, .slice A2_1 l2_1.length c2_1] 39 (0, 0)) (by (with_reducible repeat (first | refine blk_drewN ?_ _ | refine blk_drew ?_ | refine blk_alloc ?_ _)); exact BK318.out) hb); have n7_ := Aside0.mk (below_step (by repeat (first | (with_reducible first | exact HB.out | apply below_alloc | apply pw_below_drewN | apply below_drew1 | refine below_set ?_ GE316.out | refine below_set ?_ GE317.out | refine below_set ?_ GE318.out) | exact HB.out)) hb); clear HO_8; clear HO_10; clear HO_317000; clear HO_318000; clear BK316; clear BK317; clear BK318; clear HB; have HO_8 := n0_; have HO_10 := n1_; have HO_317000 := n2_; have HO_318000 := n3_; have BK316 := n4_; have BK317 := n5_; have BK318 := n6_; have HB := n7_; clear n0_ n1_ n2_ n3_ n4_ n5_ n6_ n7_; (try clear hb); (try clear hb2); (try clear hk); (try clear hi)))
                  have n0_ := Aside0.mk (Kd.R_drew HO_8.out)
                  have n1_ := Aside0.mk (Kd.R_drew HO_10.out)
                  have n2_ := Aside0.mk (Kd.N_drew HO_317000.out)
                  have n3_ := Aside0.mk (Kd.N_drew HO_318000.out)
                  have n4_ := Aside0.mk (blk_drew BK316.out)
                  have n5_ := Aside0.mk (blk_drew BK317.out)
                  have n6_ := Aside0.mk (blk_drew BK318.out)
                  have n7_ := Aside0.mk (below_drew1 HB.out)
                  clear HO_8
                  clear HO_10
                  clear HO_317000
                  clear HO_318000
                  clear BK316
                  clear BK317
                  clear BK318
                  clear HB
                  have HO_8 := n0_
                  have HO_10 := n1_
                  have HO_317000 := n2_
                  have HO_318000 := n3_
                  have BK316 := n4_
                  have BK317 := n5_
                  have BK318 := n6_
                  have HB := n7_
                  clear n0_ n1_ n2_ n3_ n4_ n5_ n6_ n7_
                  obtain ⟨Ao58, co58, eo58⟩ := Kd.R_slice HO_10.out
                  (first | subst eo58 | (injection eo58 with f1_ f2_ f3_; have f4_ := f1_.symm; have f5_ := f3_.symm; clear f1_ f2_ f3_; subst f4_; subst f5_))
                  obtain ⟨Ao59, co59, eo59⟩ := Kd.R_slice HO_8.out
                  (first | subst eo59 | (injection eo59 with f1_ f2_ f3_; have f4_ := f1_.symm; have f5_ := f3_.symm; clear f1_ f2_ f3_; subst f4_; subst f5_))
                  have q60 : ((t326.length : Int) : Int) ≤ ((t330.length : Int) : Int) := of_decide_eq_true (by first | (with_reducible assumption) | assumption)
                  obtain ⟨i060, hi060, _, hsz60, _⟩ := info_parts info5
                  have hroom60 : t330.length ≤ co58 := (Kd.R_reads' HO_10.out).2.1
                  have hC60 : Kd.F (Kd.int .u8) _ _ Ao58 t330.length t330 := (Kd.V_at (base := w.heap.size) (Kd.R_V (Kd.R_types (Kd.R_types (Kd.R_types (Kd.R_apart' (Kd.R_apart' (HO_10.out) (Kd.N_typed HO_317000.out) (by decide)) (Kd.N_typed HO_318000.out) (by decide)) BK316.out (by decide)) BK317.out (by decide)) BK318.out (by decide)))).2.2
                  have hcut60 := cut_to (P := Try.prog) 22 5 .i64 Try.underlying22 hi060 Ao58 t330.length co58 (t326.length : Int) (of_decide_eq_true (by first | (with_reducible assumption) | assumption)) q60 hroom60
                  have hr60 := Kd.F_take (m := ((t326.length : Int) : Int).toNat) hC60 (by omega)
                  have hy60 : y335.length = ((t326.length : Int) : Int).toNat := (by rw [Ny335.out, List.length_take]; omega)
                  rw [← Ny335.out] at hr60
                  rw [← hy60] at hcut60
                  have HO339 := Aside0.mk (show Kd.V (Kd.int .u8) 5 _ w.heap.size _ (.slice Ao58 y335.length co58) y335 from Kd.V_mk (by omega) hr60)
                  have HC339 := Aside0.mk (show y335.length ≤ co58 from by omega)
                  clear hr60 hC60 hroom60 hi060 hsz60
                  have KY60 := Aside0.mk hy60
                  clear hy60
                  replace q60 := eq_true q60
                  have hcv62 := own_string (P := Try.prog) Try.underlying22 Try.underlying5 Try.underlying9 (Kd.own_of_R HO_8.out)
                  refine start_ (n := 16) (S := fun w' => (convert 22 9 (.slice Ao59 t326.length co59)).run Try.prog w' = .ok (.string (strOfNums t326)) w') (ds := []) #[false, false, false, false, false, false, false, false, false, false, false, false, false, false, false, false] (by kernel_rfl) rfl rfl (own_string Try.underlying22 Try.underlying5 Try.underlying9 (Kd.own_of_R HO_8.out)) (fun hHeld => ?_); refine with_tabW registrarlaw07_QcodeApart.tab8 registrarlaw07_QcodeApart.bits8 (fun HT_ HW_ => ?_)
                  generalize w56.drew = w57 at HO_8 HO_10 HO_317000 HO_318000 BK316 BK317 BK318 HB HO339 hHeld ⊢
                  refine pure_ (i := 0) (N := some 43) (v := ?_) (a' := ?_) #[true, false, false, false, false, false, false, false, false, false, false, false, false, false, false, false] rfl rfl (any_of HT_.out (by kernel_rfl)) (fun _ _ _ h => h) (Or.inl ⟨by rfl, ?_⟩) ?_ ?_
                  rotate_left
                  · intro w'
                    go_simp
                    with_reducible rfl
                  rotate_left
                  · simp only [Act.put, List.setIfInBounds_toArray, List.set_cons_zero, List.set_cons_succ, i64_w, i32_w]
                    rfl
                  refine pure_ (i := 1) (N := some 44) (v := ?_) (a' := ?_) #[true, true, false, false, false, false, false, false, false, false, false, false, false, false, false, false] rfl rfl (any_of HT_.out (by kernel_rfl)) (fun _ _ _ h => h) (Or.inl ⟨by rfl, ?_⟩) ?_ ?_
                  rotate_left
                  · intro w'
                    go_simp
                    with_reducible rfl
                  rotate_left
                  · simp only [Act.put, List.setIfInBounds_toArray, List.set_cons_zero, List.set_cons_succ, i64_w, i32_w]
                    rfl
                  refine pure_ (i := 2) (N := some 45) (v := ?_) (a' := ?_) #[true, true, true, false, false, false, false, false, false, false, false, false, false, false, false, false] rfl rfl (any_of HT_.out (by kernel_rfl)) (fun _ _ _ h => h) (Or.inl ⟨by rfl, ?_⟩) ?_ ?_
                  rotate_left
                  · intro w'
                    go_simp
                    with_reducible rfl
                  rotate_left
                  · simp only [Act.put, List.setIfInBounds_toArray, List.set_cons_zero, List.set_cons_succ, i64_w, i32_w]
                    rfl
                  refine pure_ (i := 3) (N := some 46) (v := ?_) (a' := ?_) #[true, true, true, true, false, false, false, false, false, false, false, false, false, false, false, false] rfl rfl (any_of HT_.out (by kernel_rfl)) (fun _ _ _ h => h) (Or.inl ⟨by rfl, ?_⟩) ?_ ?_
                  rotate_left
                  · intro w'
                    go_simp
                    with_reducible rfl
                  rotate_left
                  · simp only [Act.put, List.setIfInBounds_toArray, List.set_cons_zero, List.set_cons_succ, i64_w, i32_w]
                    rfl
                  refine pure_ (i := 4) (N := some 47) (v := ?_) (a' := ?_) #[true, true, true, true, true, false, false, false, false, false, false, false, false, false, false, false] rfl rfl (any_of HT_.out (by kernel_rfl)) (fun _ _ _ h => h) (Or.inl ⟨by rfl, ?_⟩) ?_ ?_
                  rotate_left
                  · intro w'
                    go_simp
                    with_reducible rfl
                  rotate_left
                  · simp only [Act.put, List.setIfInBounds_toArray, List.set_cons_zero, List.set_cons_succ, i64_w, i32_w]
                    rfl
                  refine pure_ (i := 5) (N := some 48) (v := ?_) (a' := ?_) #[true, true, true, true, true, true, false, false, false, false, false, false, false, false, false, false] rfl rfl (any_of HT_.out (by kernel_rfl)) (fun _ _ _ h => h) (Or.inl ⟨by rfl, ?_⟩) ?_ ?_
                  rotate_left
                  · intro w'
                    go_simp
                    with_reducible rfl
                  rotate_left
                  · simp only [Act.put, List.setIfInBounds_toArray, List.set_cons_zero, List.set_cons_succ, i64_w, i32_w]
                    rfl
                  refine pure_ (i := 6) (N := some 49) (v := ?_) (a' := ?_) #[true, true, true, true, true, true, true, false, false, false, false, false, false, false, false, false] rfl rfl (any_of HT_.out (by kernel_rfl)) (fun _ _ _ h => h) (Or.inl ⟨by rfl, ?_⟩) ?_ ?_
                  rotate_left
                  · intro w'
                    go_simp
                    with_reducible rfl
                  rotate_left
                  · simp only [Act.put, List.setIfInBounds_toArray, List.set_cons_zero, List.set_cons_succ, i64_w, i32_w]
                    rfl
                  refine pure_ (i := 7) (N := some 50) (v := ?_) (a' := ?_) #[true, true, true, true, true, true, true, true, false, false, false, false, false, false, false, false] rfl rfl (any_of HT_.out (by kernel_rfl)) (fun _ _ _ h => h) (Or.inl ⟨by rfl, ?_⟩) ?_ ?_
                  rotate_left
                  · intro w'
                    go_simp
                    with_reducible rfl
                  rotate_left
                  · simp only [Act.put, List.setIfInBounds_toArray, List.set_cons_zero, List.set_cons_succ, i64_w, i32_w]
                    rfl
                  refine pure_ (i := 8) (N := some 51) (v := ?_) (a' := ?_) #[true, true, true, true, true, true, true, true, true, false, false, false, false, false, false, false] rfl rfl (any_of HT_.out (by kernel_rfl)) (fun _ _ _ h => h) (Or.inl ⟨by rfl, ?_⟩) ?_ ?_
                  rotate_left
                  · intro w'
                    go_simp
                    with_reducible rfl
                  rotate_left
                  · simp only [Act.put, List.setIfInBounds_toArray, List.set_cons_zero, List.set_cons_succ, i64_w, i32_w]
                    rfl
                  refine pure_ (i := 9) (N := some 52) (v := ?_) (a' := ?_) #[true, true, true, true, true, true, true, true, true, true, false, false, false, false, false, false] rfl rfl (any_of HT_.out (by kernel_rfl)) (fun _ _ _ h => h) (Or.inl ⟨by rfl, ?_⟩) ?_ ?_
                  rotate_left
                  · intro w'
                    go_simp
                    with_reducible rfl
                  rotate_left
                  · simp only [Act.put, List.setIfInBounds_toArray, List.set_cons_zero, List.set_cons_succ, i64_w, i32_w]
                    rfl
                  refine pure_ (i := 11) (N := some 54) (v := ?_) (a' := ?_) #[true, true, true, true, true, true, true, true, true, true, false, true, false, false, false, false] rfl rfl (any_of HT_.out (by kernel_rfl)) (fun _ _ _ h => h) (Or.inl ⟨by rfl, ?_⟩) ?_ ?_
                  rotate_left
                  · intro w'
                    go_simp
                    with_reducible rfl
                  rotate_left
                  · simp only [Act.put, List.setIfInBounds_toArray, List.set_cons_zero, List.set_cons_succ, i64_w, i32_w]
                    rfl
                  refine take_ (i := 12) (N := some 55) (v := ?_) (a' := ?_) #[true, true, true, true, true, true, true, true, true, true, false, true, true, false, false, false] rfl rfl (take_ofW HT_.out HW_.out (by kernel_rfl)) (fun _ _ _ h => h) (Or.inl ⟨by rfl, ?_⟩) hHeld ?_ ?_
                  rotate_left
                  · rintro w' s0
                    go_simp
                    with_reducible rfl
                  rotate_left
                  · simp only [Act.put, List.setIfInBounds_toArray, List.set_cons_zero, List.set_cons_succ, i64_w, i32_w]
                    rfl
                  refine one_ (i := 10) (N := some 53) #[true, true, true, true, true, true, true, true, true, true, true, true, true, false, false, false] rfl rfl (one_of HT_.out (by kernel_rfl)) (by decide) (fun K hK => ?_)
                  have hcv61 := Kd.C_string (P := Try.prog) (c := co58) Try.underlying22 Try.underlying5 Try.underlying9 (Kd.V_reads' HO339.out).2.2
                  refine value_ (w1 := ?_) (v := ?_) (by rfl) rfl ?_ ?_
                  rotate_left 2
                  · go_simp
                    constructor
                    · rfl
                    · rfl
                  clear hcv61
                  refine hK.out _ _ (own_string Try.underlying22 Try.underlying5 Try.underlying9 (Kd.own_of_R HO_8.out)) (fun hHeld => ?_)
                  clear hK K
                  refine norm_ (a' := ?_) ?_ ?_
                  rotate_left
                  · show Act.put _ (some 53) _ = _
                    simp only [Act.put, List.setIfInBounds_toArray, List.set_cons_zero, List.set_cons_succ, i64_w, i32_w]
                    rfl
                  refine pure_ (i := 13) (N := some 56) (v := ?_) (a' := ?_) #[true, true, true, true, true, true, true, true, true, true, true, true, true, true, false, false] rfl rfl (any_of HT_.out (by kernel_rfl)) (fun _ _ _ h => h) (Or.inl ⟨by rfl, ?_⟩) ?_ ?_
                  rotate_left
                  · intro w'
                    go_simp
                    with_reducible rfl
                  rotate_left
                  · simp only [Act.put, List.setIfInBounds_toArray, List.set_cons_zero, List.set_cons_succ, i64_w, i32_w]
                    rfl
                  refine pure_ (i := 14) (N := some 57) (v := ?_) (a' := ?_) #[true, true, true, true, true, true, true, true, true, true, true, true, true, true, true, false] rfl rfl (any_of HT_.out (by kernel_rfl)) (fun _ _ _ h => h) (Or.inl ⟨by rfl, ?_⟩) ?_ ?_
                  rotate_left
                  · intro w'
                    go_simp
                    with_reducible rfl
                  rotate_left
                  · simp only [Act.put, List.setIfInBounds_toArray, List.set_cons_zero, List.set_cons_succ, i64_w, i32_w]
                    rfl
                  refine pure_ (i := 15) (N := some 13) (v := ?_) (a' := ?_) #[true, true, true, true, true, true, true, true, true, true, true, true, true, true, true, true] rfl rfl (any_of HT_.out (by kernel_rfl)) (fun _ _ _ h => h) (Or.inl ⟨by rfl, ?_⟩) ?_ ?_
                  rotate_left
                  · intro w'
                    go_simp
                    with_reducible rfl
                  rotate_left
                  · simp only [Act.put, List.setIfInBounds_toArray, List.set_cons_zero, List.set_cons_succ, i64_w, i32_w]
                    rfl
                  refine done_ (done_of HT_.out (by kernel_rfl)) ?_
                  try go_wp2
                  go_meet
                  case rel => exact ⟨_, H', ⟨by have := HJ8.out; first | omega | exact Nat.le_refl _⟩, ⟨by (with_reducible repeat (first | apply Kd.N_alloc | apply Kd.N_drewN | apply Kd.N_drew)); exact Kd.N_mono HO_317000.out (fun _ hk => ⟨hk.2.2.1, ⟨hk.2.2.2.1, ⟨hk.2.2.2.2.1, hk.2.2.2.2.2⟩⟩⟩)⟩, ⟨by (with_reducible repeat (first | apply Kd.N_alloc | apply Kd.N_drewN | apply Kd.N_drew)); exact Kd.N_mono HO_318000.out (fun _ hk => ⟨hk.2.2.1, ⟨hk.2.2.2.1, ⟨hk.2.2.2.2.1, hk.2.2.2.2.2⟩⟩⟩)⟩, ⟨by (with_reducible repeat (first | refine blk_drewN ?_ _ | refine blk_drew ?_ | refine blk_alloc ?_ _)); exact BK316.out⟩, ⟨by (with_reducible repeat (first | refine blk_drewN ?_ _ | refine blk_drew ?_ | refine blk_alloc ?_ _)); exact BK317.out⟩, ⟨by (with_reducible repeat (first | refine blk_drewN ?_ _ | refine blk_drew ?_ | refine blk_alloc ?_ _)); exact BK318.out⟩, ⟨by repeat (first | (with_reducible first | exact HB.out | apply below_alloc | apply pw_below_drewN | apply below_drew1 | refine below_set ?_ GE316.out | refine below_set ?_ GE317.out | refine below_set ?_ GE318.out) | exact HB.out)⟩⟩
              · rw [if_neg c36] at H
                exact absurd H (by simp)
            · rw [if_neg c35] at H
              exact absurd H (by simp)
          · rw [if_neg c34] at H
            have c34b0 : decide ((t326.length : Int) ≤ (t330.length : Int)) = false := decide_eq_false c34
            have c34b1 : decide (t326.length ≤ t330.length) = false := decide_eq_false (fun h => c34 (Int.ofNat_le.mpr h))
            clear c34
            (first | rw [c34b0] | (simp only [i64_w, i32_w]; rw [c34b0]) | skip)
            by_cases c64 : (false != t334) = true
            · rw [if_pos c64] at H
              have c64b0 : (false != t334) = true := c64
              (try (have c64b1 : decide (false = t334) = false := by simpa using c64))
              (try (have c64b2 : (false == t334) = false := by simpa using c64))
              (try (have c64b3 : ¬ (false = t334) := by simpa using c64))
              clear c64
              obtain rfl := Option.some.inj H
              have hnb65 := NB316_317.out
              have hnc65 := NB317_316.out
              have hnb66 := NB316_318.out
              have hnc66 := NB318_316.out
              have hcz67_0 : wc.cell? ⟨gb316, 0, none⟩ = some (.slice Ao18 t320.length co18) := (blk_cell BK316.out 0).trans rfl
              have hfz67_0 := blk_frozen BK316.out 0
              have hnb68 := NB317_318.out
              have hnc68 := NB318_317.out
              have hcz69_0 : wc.cell? ⟨gb317, 0, none⟩ = some (.slice Ao24 t323.length co24) := (blk_cell BK317.out 0).trans rfl
              have hfz69_0 := blk_frozen BK317.out 0
              try go_wp2_with (first | ((with_reducible refine gate_callee (f := 18) rfl ?_); refine goesL_ (some 42) rfl rfl Try.func18 (by kernel_rfl) rfl #[.agg #[.slice Ao18 t320.length co18], .agg #[.slice Ao24 t323.length co24]] rfl (by (try simp only [List.map_toArray, List.map_cons, List.map_nil]); first | done | rfl | (simp only [List.length_drop, List.length_take]; rfl)) ?_; (with_reducible refine (registrarref06_SameG.calls _ _ t320 _ _ t323 t334 _ ?side1 ?side2 ?side3 ?side4 A33.out).mono ?_); (case side1 => repeat (first | exact (Kd.N_reads' HO_317000.out).2.2 | (with_reducible refine Kd.C_alloc ?_ _) | (with_reducible refine Kd.C_drewN ?_ _) | (with_reducible refine Kd.C_drew ?_))); (case side2 => exact (Kd.N_reads' HO_317000.out).2.1); (case side3 => repeat (first | exact (Kd.N_reads' HO_318000.out).2.2 | (with_reducible refine Kd.C_alloc ?_ _) | (with_reducible refine Kd.C_drewN ?_ _) | (with_reducible refine Kd.C_drew ?_))); (case side4 => exact (Kd.N_reads' HO_318000.out).2.1); rintro e w70 ⟨rfl, hb⟩; refine ⟨_, rfl, ?_⟩; have n0_ := Aside0.mk (Kd.R_below (by (with_reducible repeat (first | apply Kd.R_alloc | apply Kd.R_drewN | apply Kd.R_drew)); exact HO_8.out) hb); have n1_ := Aside0.mk (Kd.R_below (by (with_reducible repeat (first | apply Kd.R_alloc | apply Kd.R_drewN | apply Kd.R_drew)); exact HO_10.out) hb); have n2_ := Aside0.mk (Kd.N_below (by (with_reducible repeat (first | apply Kd.N_alloc | apply Kd.N_drewN | apply Kd.N_drew)); exact HO_317000.out) hb); have n3_ := Aside0.mk (Kd.N_below (by (with_reducible repeat (first | apply Kd.N_alloc | apply Kd.N_drewN | apply Kd.N_drew)); exact HO_318000.out) hb); have n4_ := Aside0.mk (blk_below (g := gb316) (o := .cells #[.slice Ao18 t320.length co18] 25 (0, 0)) (by (with_reducible repeat (first | refine blk_drewN ?_ _ | refine blk_drew ?_ | refine blk_alloc ?_ _)); exact BK316.out) hb); have n5_ := Aside0.mk (blk_below (g := gb317) (o := .cells #[.slice Ao24 t323.length co24] 25 (0, 0)) (by (with_reducible repeat (first | refine blk_drewN ?_ _ | refine blk_drew ?_ | refine blk_alloc ?_ _)); exact BK317.out) hb); have n6_ := Aside0.mk (blk_below (g := gb318) (o := .cells #[.slice A2_0 l2_0.length c2_0, .slice A2_1 l2_1.length c2_1] 39 (0, 0)) (by (with_reducible repeat (first | refine blk_drewN ?_ _ | refine blk_drew ?_ | refine blk_alloc ?_ _)); exact BK318.out) hb); have n7_ := Aside0.mk (below_step (by repeat (first | (with_reducible first | exact HB.out | apply below_alloc | apply pw_below_drewN | apply below_drew1 | refine below_set ?_ GE316.out | refine below_set ?_ GE317.out | refine below_set ?_ GE318.out) | exact HB.out)) hb); clear HO_8; clear HO_10; clear HO_317000; clear HO_318000; clear BK316; clear BK317; clear BK318; clear HB; have HO_8 := n0_; have HO_10 := n1_; have HO_317000 := n2_; have HO_318000 := n3_; have BK316 := n4_; have BK317 := n5_; have BK318 := n6_; have HB := n7_; clear n0_ n1_ n2_ n3_ n4_ n5_ n6_ n7_; (try clear hb); (try clear hb2); (try clear hk); (try clear hi)))
              have n0_ := Aside0.mk (Kd.R_drew HO_8.out)
              have n1_ := Aside0.mk (Kd.R_drew HO_10.out)
              have n2_ := Aside0.mk (Kd.N_drew HO_317000.out)
              have n3_ := Aside0.mk (Kd.N_drew HO_318000.out)
              have n4_ := Aside0.mk (blk_drew BK316.out)
              have n5_ := Aside0.mk (blk_drew BK317.out)
              have n6_ := Aside0.mk (blk_drew BK318.out)
              have n7_ := Aside0.mk (below_drew1 HB.out)
              clear HO_8
              clear HO_10
              clear HO_317000
              clear HO_318000
              clear BK316
              clear BK317
              clear BK318
              clear HB
              have HO_8 := n0_
              have HO_10 := n1_
              have HO_317000 := n2_
              have HO_318000 := n3_
              have BK316 := n4_
              have BK317 := n5_
              have BK318 := n6_
              have HB := n7_
              clear n0_ n1_ n2_ n3_ n4_ n5_ n6_ n7_
              obtain ⟨Ao72, co72, eo72⟩ := Kd.R_slice HO_10.out
              (first | subst eo72 | (injection eo72 with f1_ f2_ f3_; have f4_ := f1_.symm; have f5_ := f3_.symm; clear f1_ f2_ f3_; subst f4_; subst f5_))
              obtain ⟨Ao73, co73, eo73⟩ := Kd.R_slice HO_8.out
              (first | subst eo73 | (injection eo73 with f1_ f2_ f3_; have f4_ := f1_.symm; have f5_ := f3_.symm; clear f1_ f2_ f3_; subst f4_; subst f5_))
              refine start_ (n := 16) (S := fun w' => True) (ds := []) #[false, false, false, false, false, false, false, false, false, false, false, false, false, false, false, false] (by kernel_rfl) rfl rfl trivial (fun hHeld => ?_); refine with_tabW registrarlaw07_QcodeApart.tab8 registrarlaw07_QcodeApart.bits8 (fun HT_ HW_ => ?_)
              generalize w70.drew = w71 at HO_8 HO_10 HO_317000 HO_318000 BK316 BK317 BK318 HB hHeld ⊢
              refine pure_ (i := 0) (N := some 43) (v := ?_) (a' := ?_) #[true, false, false, false, false, false, false, false, false, false, false, false, false, false, false, false] rfl rfl (any_of HT_.out (by kernel_rfl)) (fun _ _ _ h => h) (Or.inl ⟨by rfl, ?_⟩) ?_ ?_
              rotate_left
              · intro w'
                go_simp
                with_reducible rfl
              rotate_left
              · simp only [Act.put, List.setIfInBounds_toArray, List.set_cons_zero, List.set_cons_succ, i64_w, i32_w]
                rfl
              refine pure_ (i := 1) (N := some 44) (v := ?_) (a' := ?_) #[true, true, false, false, false, false, false, false, false, false, false, false, false, false, false, false] rfl rfl (any_of HT_.out (by kernel_rfl)) (fun _ _ _ h => h) (Or.inl ⟨by rfl, ?_⟩) ?_ ?_
              rotate_left
              · intro w'
                go_simp
                with_reducible rfl
              rotate_left
              · simp only [Act.put, List.setIfInBounds_toArray, List.set_cons_zero, List.set_cons_succ, i64_w, i32_w]
                rfl
              refine pure_ (i := 2) (N := some 45) (v := ?_) (a' := ?_) #[true, true, true, false, false, false, false, false, false, false, false, false, false, false, false, false] rfl rfl (any_of HT_.out (by kernel_rfl)) (fun _ _ _ h => h) (Or.inl ⟨by rfl, ?_⟩) ?_ ?_
              rotate_left
              · intro w'
                go_simp
                with_reducible rfl
              rotate_left
              · simp only [Act.put, List.setIfInBounds_toArray, List.set_cons_zero, List.set_cons_succ, i64_w, i32_w]
                rfl
              refine pure_ (i := 3) (N := some 46) (v := ?_) (a' := ?_) #[true, true, true, true, false, false, false, false, false, false, false, false, false, false, false, false] rfl rfl (any_of HT_.out (by kernel_rfl)) (fun _ _ _ h => h) (Or.inl ⟨by rfl, ?_⟩) ?_ ?_
              rotate_left
              · intro w'
                go_simp
                with_reducible rfl
              rotate_left
              · simp only [Act.put, List.setIfInBounds_toArray, List.set_cons_zero, List.set_cons_succ, i64_w, i32_w]
                rfl
              refine pure_ (i := 4) (N := some 47) (v := ?_) (a' := ?_) #[true, true, true, true, true, false, false, false, false, false, false, false, false, false, false, false] rfl rfl (any_of HT_.out (by kernel_rfl)) (fun _ _ _ h => h) (Or.inl ⟨by rfl, ?_⟩) ?_ ?_
              rotate_left
              · intro w'
                go_simp
                with_reducible rfl
              rotate_left
              · simp only [Act.put, List.setIfInBounds_toArray, List.set_cons_zero, List.set_cons_succ, i64_w, i32_w]
                rfl
              refine pure_ (i := 5) (N := some 48) (v := ?_) (a' := ?_) #[true, true, true, true, true, true, false, false, false, false, false, false, false, false, false, false] rfl rfl (any_of HT_.out (by kernel_rfl)) (fun _ _ _ h => h) (Or.inl ⟨by rfl, ?_⟩) ?_ ?_
              rotate_left
              · intro w'
                go_simp
                with_reducible rfl
              rotate_left
              · simp only [Act.put, List.setIfInBounds_toArray, List.set_cons_zero, List.set_cons_succ, i64_w, i32_w]
                rfl
              refine pure_ (i := 6) (N := some 49) (v := undef) (a' := ?_) #[true, true, true, true, true, true, true, false, false, false, false, false, false, false, false, false] rfl rfl (any_of HT_.out (by kernel_rfl)) (fun _ _ _ h => h) (Or.inr ⟨by rfl, rfl⟩) ?_ ?_
              rotate_left
              · simp only [Act.put, List.setIfInBounds_toArray, List.set_cons_zero, List.set_cons_succ, i64_w, i32_w]
                rfl
              refine pure_ (i := 7) (N := some 50) (v := undef) (a' := ?_) #[true, true, true, true, true, true, true, true, false, false, false, false, false, false, false, false] rfl rfl (any_of HT_.out (by kernel_rfl)) (fun _ _ _ h => h) (Or.inr ⟨by rfl, rfl⟩) ?_ ?_
              rotate_left
              · simp only [Act.put, List.setIfInBounds_toArray, List.set_cons_zero, List.set_cons_succ, i64_w, i32_w]
                rfl
              refine pure_ (i := 8) (N := some 51) (v := undef) (a' := ?_) #[true, true, true, true, true, true, true, true, true, false, false, false, false, false, false, false] rfl rfl (any_of HT_.out (by kernel_rfl)) (fun _ _ _ h => h) (Or.inr ⟨by rfl, rfl⟩) ?_ ?_
              rotate_left
              · simp only [Act.put, List.setIfInBounds_toArray, List.set_cons_zero, List.set_cons_succ, i64_w, i32_w]
                rfl
              refine pure_ (i := 9) (N := some 52) (v := undef) (a' := ?_) #[true, true, true, true, true, true, true, true, true, true, false, false, false, false, false, false] rfl rfl (any_of HT_.out (by kernel_rfl)) (fun _ _ _ h => h) (Or.inr ⟨by rfl, rfl⟩) ?_ ?_
              rotate_left
              · simp only [Act.put, List.setIfInBounds_toArray, List.set_cons_zero, List.set_cons_succ, i64_w, i32_w]
                rfl
              refine pure_ (i := 10) (N := some 53) (v := undef) (a' := ?_) #[true, true, true, true, true, true, true, true, true, true, true, false, false, false, false, false] rfl rfl (any_of HT_.out (by kernel_rfl)) (fun _ _ _ h => h) (Or.inr ⟨by rfl, rfl⟩) ?_ ?_
              rotate_left
              · simp only [Act.put, List.setIfInBounds_toArray, List.set_cons_zero, List.set_cons_succ, i64_w, i32_w]
                rfl
              refine pure_ (i := 11) (N := some 54) (v := undef) (a' := ?_) #[true, true, true, true, true, true, true, true, true, true, true, true, false, false, false, false] rfl rfl (any_of HT_.out (by kernel_rfl)) (fun _ _ _ h => h) (Or.inr ⟨by rfl, rfl⟩) ?_ ?_
              rotate_left
              · simp only [Act.put, List.setIfInBounds_toArray, List.set_cons_zero, List.set_cons_succ, i64_w, i32_w]
                rfl
              refine pure_ (i := 12) (N := some 55) (v := undef) (a' := ?_) #[true, true, true, true, true, true, true, true, true, true, true, true, true, false, false, false] rfl rfl (any_of HT_.out (by kernel_rfl)) (fun _ _ _ h => h) (Or.inr ⟨by rfl, rfl⟩) ?_ ?_
              rotate_left
              · simp only [Act.put, List.setIfInBounds_toArray, List.set_cons_zero, List.set_cons_succ, i64_w, i32_w]
                rfl
              refine pure_ (i := 13) (N := some 56) (v := undef) (a' := ?_) #[true, true, true, true, true, true, true, true, true, true, true, true, true, true, false, false] rfl rfl (any_of HT_.out (by kernel_rfl)) (fun _ _ _ h => h) (Or.inr ⟨by rfl, rfl⟩) ?_ ?_
              rotate_left
              · simp only [Act.put, List.setIfInBounds_toArray, List.set_cons_zero, List.set_cons_succ, i64_w, i32_w]
                rfl
              refine pure_ (i := 14) (N := some 57) (v := ?_) (a' := ?_) #[true, true, true, true, true, true, true, true, true, true, true, true, true, true, true, false] rfl rfl (any_of HT_.out (by kernel_rfl)) (fun _ _ _ h => h) (Or.inl ⟨by rfl, ?_⟩) ?_ ?_
              rotate_left
              · intro w'
                go_simp
                with_reducible rfl
              rotate_left
              · simp only [Act.put, List.setIfInBounds_toArray, List.set_cons_zero, List.set_cons_succ, i64_w, i32_w]
                rfl
              refine pure_ (i := 15) (N := some 13) (v := ?_) (a' := ?_) #[true, true, true, true, true, true, true, true, true, true, true, true, true, true, true, true] rfl rfl (any_of HT_.out (by kernel_rfl)) (fun _ _ _ h => h) (Or.inl ⟨by rfl, ?_⟩) ?_ ?_
              rotate_left
              · intro w'
                go_simp
                with_reducible rfl
              rotate_left
              · simp only [Act.put, List.setIfInBounds_toArray, List.set_cons_zero, List.set_cons_succ, i64_w, i32_w]
                rfl
              refine done_ (done_of HT_.out (by kernel_rfl)) ?_
              try go_wp2
              go_ret
              exact ⟨by first | rfl | (simp [errW_none, errW_some] <;> rfl) | (simp [*, errW_none, errW_some] <;> rfl), by repeat (first | (with_reducible first | exact HB.out | apply below_alloc | apply pw_below_drewN | apply below_drew1 | refine below_set ?_ GE316.out | refine below_set ?_ GE317.out | refine below_set ?_ GE318.out) | exact HB.out)⟩
            · rw [if_neg c64] at H
              have c64b0 : (false != t334) = false := by simpa using c64
              (try (have c64b1 : decide (false = t334) = true := by simpa using c64))
              (try (have c64b2 : (false == t334) = true := by simpa using c64))
              clear c64
              have H' := Aside0.mk H
              clear H
              have hnb74 := NB316_317.out
              have hnc74 := NB317_316.out
              have hnb75 := NB316_318.out
              have hnc75 := NB318_316.out
              have hcz76_0 : wc.cell? ⟨gb316, 0, none⟩ = some (.slice Ao18 t320.length co18) := (blk_cell BK316.out 0).trans rfl
              have hfz76_0 := blk_frozen BK316.out 0
              have hnb77 := NB317_318.out
              have hnc77 := NB318_317.out
              have hcz78_0 : wc.cell? ⟨gb317, 0, none⟩ = some (.slice Ao24 t323.length co24) := (blk_cell BK317.out 0).trans rfl
              have hfz78_0 := blk_frozen BK317.out 0
              try go_wp2_with (first | ((with_reducible refine gate_callee (f := 18) rfl ?_); refine goesL_ (some 42) rfl rfl Try.func18 (by kernel_rfl) rfl #[.agg #[.slice Ao18 t320.length co18], .agg #[.slice Ao24 t323.length co24]] rfl (by (try simp only [List.map_toArray, List.map_cons, List.map_nil]); first | done | rfl | (simp only [List.length_drop, List.length_take]; rfl)) ?_; (with_reducible refine (registrarref06_SameG.calls _ _ t320 _ _ t323 t334 _ ?side1 ?side2 ?side3 ?side4 A33.out).mono ?_); (case side1 => repeat (first | exact (Kd.N_reads' HO_317000.out).2.2 | (with_reducible refine Kd.C_alloc ?_ _) | (with_reducible refine Kd.C_drewN ?_ _) | (with_reducible refine Kd.C_drew ?_))); (case side2 => exact (Kd.N_reads' HO_317000.out).2.1); (case side3 => repeat (first | exact (Kd.N_reads' HO_318000.out).2.2 | (with_reducible refine Kd.C_alloc ?_ _) | (with_reducible refine Kd.C_drewN ?_ _) | (with_reducible refine Kd.C_drew ?_))); (case side4 => exact (Kd.N_reads' HO_318000.out).2.1); rintro e w79 ⟨rfl, hb⟩; refine ⟨_, rfl, ?_⟩; have n0_ := Aside0.mk (Kd.R_below (by (with_reducible repeat (first | apply Kd.R_alloc | apply Kd.R_drewN | apply Kd.R_drew)); exact HO_8.out) hb); have n1_ := Aside0.mk (Kd.R_below (by (with_reducible repeat (first | apply Kd.R_alloc | apply Kd.R_drewN | apply Kd.R_drew)); exact HO_10.out) hb); have n2_ := Aside0.mk (Kd.N_below (by (with_reducible repeat (first | apply Kd.N_alloc | apply Kd.N_drewN | apply Kd.N_drew)); exact HO_317000.out) hb); have n3_ := Aside0.mk (Kd.N_below (by (with_reducible repeat (first | apply Kd.N_alloc | apply Kd.N_drewN | apply Kd.N_drew)); exact HO_318000.out) hb); have n4_ := Aside0.mk (blk_below (g := gb316) (o := .cells #[.slice Ao18 t320.length co18] 25 (0, 0)) (by (with_reducible repeat (first | refine blk_drewN ?_ _ | refine blk_drew ?_ | refine blk_alloc ?_ _)); exact BK316.out) hb); have n5_ := Aside0.mk (blk_below (g := gb317) (o := .cells #[.slice Ao24 t323.length co24] 25 (0, 0)) (by (with_reducible repeat (first | refine blk_drewN ?_ _ | refine blk_drew ?_ | refine blk_alloc ?_ _)); exact BK317.out) hb); have n6_ := Aside0.mk (blk_below (g := gb318) (o := .cells #[.slice A2_0 l2_0.length c2_0, .slice A2_1 l2_1.length c2_1] 39 (0, 0)) (by (with_reducible repeat (first | refine blk_drewN ?_ _ | refine blk_drew ?_ | refine blk_alloc ?_ _)); exact BK318.out) hb); have n7_ := Aside0.mk (below_step (by repeat (first | (with_reducible first | exact HB.out | apply below_alloc | apply pw_below_drewN | apply below_drew1 | refine below_set ?_ GE316.out | refine below_set ?_ GE317.out | refine below_set ?_ GE318.out) | exact HB.out)) hb); clear HO_8; clear HO_10; clear HO_317000; clear HO_318000; clear BK316; clear BK317; clear BK318; clear HB; have HO_8 := n0_; have HO_10 := n1_; have HO_317000 := n2_; have HO_318000 := n3_; have BK316 := n4_; have BK317 := n5_; have BK318 := n6_; have HB := n7_; clear n0_ n1_ n2_ n3_ n4_ n5_ n6_ n7_; (try clear hb); (try clear hb2); (try clear hk); (try clear hi)))
              have n0_ := Aside0.mk (Kd.R_drew HO_8.out)
              have n1_ := Aside0.mk (Kd.R_drew HO_10.out)
              have n2_ := Aside0.mk (Kd.N_drew HO_317000.out)
              have n3_ := Aside0.mk (Kd.N_drew HO_318000.out)
              have n4_ := Aside0.mk (blk_drew BK316.out)
              have n5_ := Aside0.mk (blk_drew BK317.out)
              have n6_ := Aside0.mk (blk_drew BK318.out)
              have n7_ := Aside0.mk (below_drew1 HB.out)
              clear HO_8
              clear HO_10
              clear HO_317000
              clear HO_318000
              clear BK316
              clear BK317
              clear BK318
              clear HB
              have HO_8 := n0_
              have HO_10 := n1_
              have HO_317000 := n2_
              have HO_318000 := n3_
              have BK316 := n4_
              have BK317 := n5_
              have BK318 := n6_
              have HB := n7_
              clear n0_ n1_ n2_ n3_ n4_ n5_ n6_ n7_
              obtain ⟨Ao81, co81, eo81⟩ := Kd.R_slice HO_10.out
              (first | subst eo81 | (injection eo81 with f1_ f2_ f3_; have f4_ := f1_.symm; have f5_ := f3_.symm; clear f1_ f2_ f3_; subst f4_; subst f5_))
              obtain ⟨Ao82, co82, eo82⟩ := Kd.R_slice HO_8.out
              (first | subst eo82 | (injection eo82 with f1_ f2_ f3_; have f4_ := f1_.symm; have f5_ := f3_.symm; clear f1_ f2_ f3_; subst f4_; subst f5_))
              refine start_ (n := 16) (S := fun w' => True) (ds := []) #[false, false, false, false, false, false, false, false, false, false, false, false, false, false, false, false] (by kernel_rfl) rfl rfl trivial (fun hHeld => ?_); refine with_tabW registrarlaw07_QcodeApart.tab8 registrarlaw07_QcodeApart.bits8 (fun HT_ HW_ => ?_)
              generalize w79.drew = w80 at HO_8 HO_10 HO_317000 HO_318000 BK316 BK317 BK318 HB hHeld ⊢
              refine pure_ (i := 0) (N := some 43) (v := ?_) (a' := ?_) #[true, false, false, false, false, false, false, false, false, false, false, false, false, false, false, false] rfl rfl (any_of HT_.out (by kernel_rfl)) (fun _ _ _ h => h) (Or.inl ⟨by rfl, ?_⟩) ?_ ?_
              rotate_left
              · intro w'
                go_simp
                with_reducible rfl
              rotate_left
              · simp only [Act.put, List.setIfInBounds_toArray, List.set_cons_zero, List.set_cons_succ, i64_w, i32_w]
                rfl
              refine pure_ (i := 1) (N := some 44) (v := ?_) (a' := ?_) #[true, true, false, false, false, false, false, false, false, false, false, false, false, false, false, false] rfl rfl (any_of HT_.out (by kernel_rfl)) (fun _ _ _ h => h) (Or.inl ⟨by rfl, ?_⟩) ?_ ?_
              rotate_left
              · intro w'
                go_simp
                with_reducible rfl
              rotate_left
              · simp only [Act.put, List.setIfInBounds_toArray, List.set_cons_zero, List.set_cons_succ, i64_w, i32_w]
                rfl
              refine pure_ (i := 2) (N := some 45) (v := ?_) (a' := ?_) #[true, true, true, false, false, false, false, false, false, false, false, false, false, false, false, false] rfl rfl (any_of HT_.out (by kernel_rfl)) (fun _ _ _ h => h) (Or.inl ⟨by rfl, ?_⟩) ?_ ?_
              rotate_left
              · intro w'
                go_simp
                with_reducible rfl
              rotate_left
              · simp only [Act.put, List.setIfInBounds_toArray, List.set_cons_zero, List.set_cons_succ, i64_w, i32_w]
                rfl
              refine pure_ (i := 3) (N := some 46) (v := ?_) (a' := ?_) #[true, true, true, true, false, false, false, false, false, false, false, false, false, false, false, false] rfl rfl (any_of HT_.out (by kernel_rfl)) (fun _ _ _ h => h) (Or.inl ⟨by rfl, ?_⟩) ?_ ?_
              rotate_left
              · intro w'
                go_simp
                with_reducible rfl
              rotate_left
              · simp only [Act.put, List.setIfInBounds_toArray, List.set_cons_zero, List.set_cons_succ, i64_w, i32_w]
                rfl
              refine pure_ (i := 4) (N := some 47) (v := ?_) (a' := ?_) #[true, true, true, true, true, false, false, false, false, false, false, false, false, false, false, false] rfl rfl (any_of HT_.out (by kernel_rfl)) (fun _ _ _ h => h) (Or.inl ⟨by rfl, ?_⟩) ?_ ?_
              rotate_left
              · intro w'
                go_simp
                with_reducible rfl
              rotate_left
              · simp only [Act.put, List.setIfInBounds_toArray, List.set_cons_zero, List.set_cons_succ, i64_w, i32_w]
                rfl
              refine pure_ (i := 5) (N := some 48) (v := ?_) (a' := ?_) #[true, true, true, true, true, true, false, false, false, false, false, false, false, false, false, false] rfl rfl (any_of HT_.out (by kernel_rfl)) (fun _ _ _ h => h) (Or.inl ⟨by rfl, ?_⟩) ?_ ?_
              rotate_left
              · intro w'
                go_simp
                with_reducible rfl
              rotate_left
              · simp only [Act.put, List.setIfInBounds_toArray, List.set_cons_zero, List.set_cons_succ, i64_w, i32_w]
                rfl
              refine pure_ (i := 6) (N := some 49) (v := undef) (a' := ?_) #[true, true, true, true, true, true, true, false, false, false, false, false, false, false, false, false] rfl rfl (any_of HT_.out (by kernel_rfl)) (fun _ _ _ h => h) (Or.inr ⟨by rfl, rfl⟩) ?_ ?_
              rotate_left
              · simp only [Act.put, List.setIfInBounds_toArray, List.set_cons_zero, List.set_cons_succ, i64_w, i32_w]
                rfl
              refine pure_ (i := 7) (N := some 50) (v := undef) (a' := ?_) #[true, true, true, true, true, true, true, true, false, false, false, false, false, false, false, false] rfl rfl (any_of HT_.out (by kernel_rfl)) (fun _ _ _ h => h) (Or.inr ⟨by rfl, rfl⟩) ?_ ?_
              rotate_left
              · simp only [Act.put, List.setIfInBounds_toArray, List.set_cons_zero, List.set_cons_succ, i64_w, i32_w]
                rfl
              refine pure_ (i := 8) (N := some 51) (v := undef) (a' := ?_) #[true, true, true, true, true, true, true, true, true, false, false, false, false, false, false, false] rfl rfl (any_of HT_.out (by kernel_rfl)) (fun _ _ _ h => h) (Or.inr ⟨by rfl, rfl⟩) ?_ ?_
              rotate_left
              · simp only [Act.put, List.setIfInBounds_toArray, List.set_cons_zero, List.set_cons_succ, i64_w, i32_w]
                rfl
              refine pure_ (i := 9) (N := some 52) (v := undef) (a' := ?_) #[true, true, true, true, true, true, true, true, true, true, false, false, false, false, false, false] rfl rfl (any_of HT_.out (by kernel_rfl)) (fun _ _ _ h => h) (Or.inr ⟨by rfl, rfl⟩) ?_ ?_
              rotate_left
              · simp only [Act.put, List.setIfInBounds_toArray, List.set_cons_zero, List.set_cons_succ, i64_w, i32_w]
                rfl
              refine pure_ (i := 10) (N := some 53) (v := undef) (a' := ?_) #[true, true, true, true, true, true, true, true, true, true, true, false, false, false, false, false] rfl rfl (any_of HT_.out (by kernel_rfl)) (fun _ _ _ h => h) (Or.inr ⟨by rfl, rfl⟩) ?_ ?_
              rotate_left
              · simp only [Act.put, List.setIfInBounds_toArray, List.set_cons_zero, List.set_cons_succ, i64_w, i32_w]
                rfl
              refine pure_ (i := 11) (N := some 54) (v := undef) (a' := ?_) #[true, true, true, true, true, true, true, true, true, true, true, true, false, false, false, false] rfl rfl (any_of HT_.out (by kernel_rfl)) (fun _ _ _ h => h) (Or.inr ⟨by rfl, rfl⟩) ?_ ?_
              rotate_left
              · simp only [Act.put, List.setIfInBounds_toArray, List.set_cons_zero, List.set_cons_succ, i64_w, i32_w]
                rfl
              refine pure_ (i := 12) (N := some 55) (v := undef) (a' := ?_) #[true, true, true, true, true, true, true, true, true, true, true, true, true, false, false, false] rfl rfl (any_of HT_.out (by kernel_rfl)) (fun _ _ _ h => h) (Or.inr ⟨by rfl, rfl⟩) ?_ ?_
              rotate_left
              · simp only [Act.put, List.setIfInBounds_toArray, List.set_cons_zero, List.set_cons_succ, i64_w, i32_w]
                rfl
              refine pure_ (i := 13) (N := some 56) (v := undef) (a' := ?_) #[true, true, true, true, true, true, true, true, true, true, true, true, true, true, false, false] rfl rfl (any_of HT_.out (by kernel_rfl)) (fun _ _ _ h => h) (Or.inr ⟨by rfl, rfl⟩) ?_ ?_
              rotate_left
              · simp only [Act.put, List.setIfInBounds_toArray, List.set_cons_zero, List.set_cons_succ, i64_w, i32_w]
                rfl
              refine pure_ (i := 14) (N := some 57) (v := ?_) (a' := ?_) #[true, true, true, true, true, true, true, true, true, true, true, true, true, true, true, false] rfl rfl (any_of HT_.out (by kernel_rfl)) (fun _ _ _ h => h) (Or.inl ⟨by rfl, ?_⟩) ?_ ?_
              rotate_left
              · intro w'
                go_simp
                with_reducible rfl
              rotate_left
              · simp only [Act.put, List.setIfInBounds_toArray, List.set_cons_zero, List.set_cons_succ, i64_w, i32_w]
                rfl
              refine pure_ (i := 15) (N := some 13) (v := ?_) (a' := ?_) #[true, true, true, true, true, true, true, true, true, true, true, true, true, true, true, true] rfl rfl (any_of HT_.out (by kernel_rfl)) (fun _ _ _ h => h) (Or.inl ⟨by rfl, ?_⟩) ?_ ?_
              rotate_left
              · intro w'
                go_simp
                with_reducible rfl
              rotate_left
              · simp only [Act.put, List.setIfInBounds_toArray, List.set_cons_zero, List.set_cons_succ, i64_w, i32_w]
                rfl
              refine done_ (done_of HT_.out (by kernel_rfl)) ?_
              try go_wp2
              go_meet
              case rel => exact ⟨_, H', ⟨by have := HJ8.out; first | omega | exact Nat.le_refl _⟩, ⟨by (with_reducible repeat (first | apply Kd.N_alloc | apply Kd.N_drewN | apply Kd.N_drew)); exact Kd.N_mono HO_317000.out (fun _ hk => ⟨hk.2.2.1, ⟨hk.2.2.2.1, ⟨hk.2.2.2.2.1, hk.2.2.2.2.2⟩⟩⟩)⟩, ⟨by (with_reducible repeat (first | apply Kd.N_alloc | apply Kd.N_drewN | apply Kd.N_drew)); exact Kd.N_mono HO_318000.out (fun _ hk => ⟨hk.2.2.1, ⟨hk.2.2.2.1, ⟨hk.2.2.2.2.1, hk.2.2.2.2.2⟩⟩⟩)⟩, ⟨by (with_reducible repeat (first | refine blk_drewN ?_ _ | refine blk_drew ?_ | refine blk_alloc ?_ _)); exact BK316.out⟩, ⟨by (with_reducible repeat (first | refine blk_drewN ?_ _ | refine blk_drew ?_ | refine blk_alloc ?_ _)); exact BK317.out⟩, ⟨by (with_reducible repeat (first | refine blk_drewN ?_ _ | refine blk_drew ?_ | refine blk_alloc ?_ _)); exact BK318.out⟩, ⟨by repeat (first | (with_reducible first | exact HB.out | apply below_alloc | apply pw_below_drewN | apply below_drew1 | refine below_set ?_ GE316.out | refine below_set ?_ GE317.out | refine below_set ?_ GE318.out) | exact HB.out)⟩⟩
        · replace c32 := Bool.eq_false_iff.mpr c32
          subst c32
          have H1 : (registrarlaw07_QcodeApart.j1 kj8 t319 l2_0 l2_1) = some r := by rw [if_neg (show ¬ (false = true) by decide)] at H; exact H
          clear H
          have H := H1
          clear H1
          have H' := Aside0.mk H
          clear H
          go_wp2
          go_meet
          case rel => exact ⟨_, H', ⟨by have := HJ8.out; first | omega | exact Nat.le_refl _⟩, ⟨by (with_reducible repeat (first | apply Kd.N_alloc | apply Kd.N_drewN | apply Kd.N_drew)); exact Kd.N_mono HO_317000.out (fun _ hk => ⟨hk.2.2.1, ⟨hk.2.2.2.1, ⟨hk.2.2.2.2.1, hk.2.2.2.2.2⟩⟩⟩)⟩, ⟨by (with_reducible repeat (first | apply Kd.N_alloc | apply Kd.N_drewN | apply Kd.N_drew)); exact Kd.N_mono HO_318000.out (fun _ hk => ⟨hk.2.2.1, ⟨hk.2.2.2.1, ⟨hk.2.2.2.2.1, hk.2.2.2.2.2⟩⟩⟩)⟩, ⟨by (with_reducible repeat (first | refine blk_drewN ?_ _ | refine blk_drew ?_ | refine blk_alloc ?_ _)); exact BK316.out⟩, ⟨by (with_reducible repeat (first | refine blk_drewN ?_ _ | refine blk_drew ?_ | refine blk_alloc ?_ _)); exact BK317.out⟩, ⟨by (with_reducible repeat (first | refine blk_drewN ?_ _ | refine blk_drew ?_ | refine blk_alloc ?_ _)); exact BK318.out⟩, ⟨by repeat (first | (with_reducible first | exact HB.out | apply below_alloc | apply pw_below_drewN | apply below_drew1 | refine below_set ?_ GE316.out | refine below_set ?_ GE317.out | refine below_set ?_ GE318.out) | exact HB.out)⟩⟩
      case rest =>
        clear HC31
        try clear c1
        try clear c2
        try clear p2
        try clear c3
        try clear hcv4
        try clear c5
        try clear c6
        try clear q6
        try clear hcv6
        try clear c7
        try clear c18
        try clear c32
        try clear c34
        try clear c34b0
        try clear c34b1
        try clear c35
        try clear c36
        try clear c37
        try clear c37b0
        try clear c37b1
        try clear c37b2
        try clear hcv48
        try clear c51
        try clear c52
        try clear c54
        try clear q60
        try clear hcv61
        try clear hcv62
        try clear c64
        try clear c64b0
        try clear c64b1
        try clear c64b2
        try clear c65
        try clear c66
        try clear c68
        try clear c74
        try clear c75
        try clear c77
        try clear hcz53_0
        try clear hcz55_0
        try clear hcz67_0
        try clear hcz69_0
        try clear hcz76_0
        try clear hcz78_0
        try clear hfz53_0
        try clear hfz55_0
        try clear hfz67_0
        try clear hfz69_0
        try clear hfz76_0
        try clear hfz78_0
        try clear q60
        obtain ⟨kq, HA, HJ30, HO_317000, HO_318000, BK316, BK317, BK318, HB⟩ := hcut
        cases kq with
        | zero => exact absurd HA.out (by simp [registrarlaw07_QcodeApart.j1])
        | succ kj30 =>
          have H := HA.out
          clear HA
          simp only [registrarlaw07_QcodeApart.j1] at H
          replace H := Option.bind_eq_some_iff.mp H
          obtain ⟨t340, A830, H⟩ := H
          replace H : ((qcode_PutDefs.f t340).bind fun bt343 => ((registrarlaw07_some.f kj30 l2_1).bind fun t347 => ((qcode_PutDefs.f t347).bind fun bt350 => (if bt343.2 = 0 then (registrarlaw07_QcodeApart.j2 kj30 t319 bt343.1 bt350.1 (bt350.2 != 0) l2_0 l2_1) else (registrarlaw07_QcodeApart.j2 kj30 t319 bt343.1 bt350.1 true l2_0 l2_1))))) = some r := H
          have A83 := Aside0.mk A830
          clear A830
          replace H := Option.bind_eq_some_iff.mp H
          obtain ⟨⟨t343, t344⟩, A840, H⟩ := H
          replace H : ((registrarlaw07_some.f kj30 l2_1).bind fun t347 => ((qcode_PutDefs.f t347).bind fun bt350 => (if t344 = 0 then (registrarlaw07_QcodeApart.j2 kj30 t319 t343 bt350.1 (bt350.2 != 0) l2_0 l2_1) else (registrarlaw07_QcodeApart.j2 kj30 t319 t343 bt350.1 true l2_0 l2_1)))) = some r := H
          have A84 := Aside0.mk A840
          clear A840
          replace H := Option.bind_eq_some_iff.mp H
          obtain ⟨t347, A850, H⟩ := H
          replace H : ((qcode_PutDefs.f t347).bind fun bt350 => (if t344 = 0 then (registrarlaw07_QcodeApart.j2 kj30 t319 t343 bt350.1 (bt350.2 != 0) l2_0 l2_1) else (registrarlaw07_QcodeApart.j2 kj30 t319 t343 bt350.1 true l2_0 l2_1))) = some r := H
          have A85 := Aside0.mk A850
          clear A850
          replace H := Option.bind_eq_some_iff.mp H
          obtain ⟨⟨t350, t351⟩, A860, H⟩ := H
          replace H : (if t344 = 0 then (registrarlaw07_QcodeApart.j2 kj30 t319 t343 t350 (t351 != 0) l2_0 l2_1) else (registrarlaw07_QcodeApart.j2 kj30 t319 t343 t350 true l2_0 l2_1)) = some r := H
          have A86 := Aside0.mk A860
          clear A860
          have HC87 := Aside0.mk H
          clear H
          have hnb88 := NB318_316.out
          have hnc88 := NB316_318.out
          have hnb89 := NB318_317.out
          have hnc89 := NB317_318.out
          have hcz90_0 : wc.cell? ⟨gb318, 0, none⟩ = some (.slice A2_0 l2_0.length c2_0) := (blk_cell BK318.out 0).trans rfl
          have hcz90_1 : wc.cell? ⟨gb318, 1, none⟩ = some (.slice A2_1 l2_1.length c2_1) := (blk_cell BK318.out 1).trans rfl
          have hfz90_0 := blk_frozen BK318.out 0
          have hfz90_1 := blk_frozen BK318.out 1
          go_upto_region 13 with (first | ((with_reducible refine gate_callee (f := 14) rfl ?_); refine goesL_ (some 64) rfl rfl Try.func14 (by kernel_rfl) rfl #[.slice A2_0 l2_0.length c2_0] rfl (by (try simp only [List.map_toArray, List.map_cons, List.map_nil]); first | done | rfl | (simp only [List.length_drop, List.length_take]; rfl)) ?_; (with_reducible refine (registrarlaw07_some.calls kj30 (fun k_ => k_ < w.heap.size) _ _ l2_0 t340 _ ?side1 A83.out).mono ?_); (case side1 => exact Kd.V_mk HC2_0.out (Kd.F_below (Kd.C_F k36_heap HR2_0.out) (by repeat (first | (with_reducible first | exact HB.out | apply below_alloc | apply pw_below_drewN | apply below_drew1 | refine below_set ?_ GE316.out | refine below_set ?_ GE317.out | refine below_set ?_ GE318.out) | exact HB.out)))); rintro e w91 ⟨v341, rfl, ho0, hb⟩; refine ⟨_, rfl, ?_⟩; have n0_ := Aside0.mk (Kd.N_elder' (by (with_reducible repeat (first | apply Kd.N_alloc | apply Kd.N_drewN | apply Kd.N_drew)); exact HO_317000.out) (Kd.N_base ho0) hb); have n1_ := Aside0.mk (Kd.N_elder' (by (with_reducible repeat (first | apply Kd.N_alloc | apply Kd.N_drewN | apply Kd.N_drew)); exact HO_318000.out) (Kd.N_base ho0) hb); have n2_ := Aside0.mk (Kd.N_lower (Kd.N_mono (ok' := fun k_ => some k_ ≠ (.slice Ao18 t320.length co18 : Value).ownBlock ∧ some k_ ≠ (.slice Ao24 t323.length co24 : Value).ownBlock ∧ k_ ≠ gb316 ∧ k_ ≠ gb317 ∧ k_ ≠ gb318) ho0 (fun k_ hk_ => ⟨Or.elim hk_ (fun hs_ => fun e_ => Nat.not_le.2 hs_ (Kd.N_base HO_317000.out k_ e_.symm)) (fun hn_ => (Kd.fresh' (Kd.N_lt (by (with_reducible repeat (first | apply Kd.N_alloc | apply Kd.N_drewN | apply Kd.N_drew)); exact HO_317000.out)) k_ hn_)), Or.elim hk_ (fun hs_ => fun e_ => Nat.not_le.2 hs_ (Kd.N_base HO_318000.out k_ e_.symm)) (fun hn_ => (Kd.fresh' (Kd.N_lt (by (with_reducible repeat (first | apply Kd.N_alloc | apply Kd.N_drewN | apply Kd.N_drew)); exact HO_318000.out)) k_ hn_)), Or.elim hk_ (fun hs_ => fun e_ => Nat.not_le.2 hs_ (by rw [e_]; exact GW316.out)) (fun hn_ => (Kd.freshB (g := gb316) (o := .cells #[.slice Ao18 t320.length co18] 25 (0, 0)) (by (with_reducible repeat (first | refine blk_drewN ?_ _ | refine blk_drew ?_ | refine blk_alloc ?_ _)); exact BK316.out) k_ hn_)), Or.elim hk_ (fun hs_ => fun e_ => Nat.not_le.2 hs_ (by rw [e_]; exact GW317.out)) (fun hn_ => (Kd.freshB (g := gb317) (o := .cells #[.slice Ao24 t323.length co24] 25 (0, 0)) (by (with_reducible repeat (first | refine blk_drewN ?_ _ | refine blk_drew ?_ | refine blk_alloc ?_ _)); exact BK317.out) k_ hn_)), Or.elim hk_ (fun hs_ => fun e_ => Nat.not_le.2 hs_ (by rw [e_]; exact GW318.out)) (fun hn_ => (Kd.freshB (g := gb318) (o := .cells #[.slice A2_0 l2_0.length c2_0, .slice A2_1 l2_1.length c2_1] 39 (0, 0)) (by (with_reducible repeat (first | refine blk_drewN ?_ _ | refine blk_drew ?_ | refine blk_alloc ?_ _)); exact BK318.out) k_ hn_))⟩)) (below_size (by repeat (first | (with_reducible first | exact HB.out | apply below_alloc | apply pw_below_drewN | apply below_drew1 | refine below_set ?_ GE316.out | refine below_set ?_ GE317.out | refine below_set ?_ GE318.out) | exact HB.out)))); have n3_ := Aside0.mk (blk_below (g := gb316) (o := .cells #[.slice Ao18 t320.length co18] 25 (0, 0)) (by (with_reducible repeat (first | refine blk_drewN ?_ _ | refine blk_drew ?_ | refine blk_alloc ?_ _)); exact BK316.out) hb); have n4_ := Aside0.mk (blk_below (g := gb317) (o := .cells #[.slice Ao24 t323.length co24] 25 (0, 0)) (by (with_reducible repeat (first | refine blk_drewN ?_ _ | refine blk_drew ?_ | refine blk_alloc ?_ _)); exact BK317.out) hb); have n5_ := Aside0.mk (blk_below (g := gb318) (o := .cells #[.slice A2_0 l2_0.length c2_0, .slice A2_1 l2_1.length c2_1] 39 (0, 0)) (by (with_reducible repeat (first | refine blk_drewN ?_ _ | refine blk_drew ?_ | refine blk_alloc ?_ _)); exact BK318.out) hb); have n6_ := Aside0.mk (below_step (by repeat (first | (with_reducible first | exact HB.out | apply below_alloc | apply pw_below_drewN | apply below_drew1 | refine below_set ?_ GE316.out | refine below_set ?_ GE317.out | refine below_set ?_ GE318.out) | exact HB.out)) hb); clear HO_317000; clear HO_318000; clear BK316; clear BK317; clear BK318; clear HB; have HO_317000 := n0_; have HO_318000 := n1_; have HO342 := n2_; have BK316 := n3_; have BK317 := n4_; have BK318 := n5_; have HB := n6_; clear n0_ n1_ n2_ n3_ n4_ n5_ n6_; (try clear hb); (try clear hb2); (try clear hk); (try clear hi); (try clear ho0); obtain ⟨Ao92, co92, eo92⟩ := Kd.N_slice HO342.out; subst eo92) | ((with_reducible refine gate_callee (f := 13) rfl ?_); refine goesL_ (some 65) rfl rfl Try.func13 (by kernel_rfl) rfl #[.slice Ao92 t340.length co92] rfl (by (try simp only [List.map_toArray, List.map_cons, List.map_nil]); first | done | rfl | (simp only [List.length_drop, List.length_take]; rfl)) ?_; (with_reducible refine (qcode_PutDefs.calls _ _ t340 t343 t344 _ ?side1 ?side2 A84.out).mono ?_); (case side1 => repeat (first | exact (Kd.N_reads' HO342.out).2.2 | (with_reducible refine Kd.C_alloc ?_ _) | (with_reducible refine Kd.C_drewN ?_ _) | (with_reducible refine Kd.C_drew ?_))); (case side2 => exact (Kd.N_reads' HO342.out).2.1); rintro e w93 ⟨v345, rfl, ho0, hb⟩; refine ⟨_, rfl, ?_⟩; have n0_ := Aside0.mk (Kd.N_elder' (by (with_reducible repeat (first | apply Kd.N_alloc | apply Kd.N_drewN | apply Kd.N_drew)); exact HO_317000.out) (Kd.R_base ho0) hb); have n1_ := Aside0.mk (Kd.N_elder' (by (with_reducible repeat (first | apply Kd.N_alloc | apply Kd.N_drewN | apply Kd.N_drew)); exact HO_318000.out) (Kd.R_base ho0) hb); have n2_ := Aside0.mk (Kd.N_elder' (by (with_reducible repeat (first | apply Kd.N_alloc | apply Kd.N_drewN | apply Kd.N_drew)); exact HO342.out) (Kd.R_base ho0) hb); have n3_ := Aside0.mk (Kd.R_lower ho0 (below_size (by repeat (first | (with_reducible first | exact HB.out | apply below_alloc | apply pw_below_drewN | apply below_drew1 | refine below_set ?_ GE316.out | refine below_set ?_ GE317.out | refine below_set ?_ GE318.out) | exact HB.out)))); have n4_ := Aside0.mk (blk_below (g := gb316) (o := .cells #[.slice Ao18 t320.length co18] 25 (0, 0)) (by (with_reducible repeat (first | refine blk_drewN ?_ _ | refine blk_drew ?_ | refine blk_alloc ?_ _)); exact BK316.out) hb); have n5_ := Aside0.mk (blk_below (g := gb317) (o := .cells #[.slice Ao24 t323.length co24] 25 (0, 0)) (by (with_reducible repeat (first | refine blk_drewN ?_ _ | refine blk_drew ?_ | refine blk_alloc ?_ _)); exact BK317.out) hb); have n6_ := Aside0.mk (blk_below (g := gb318) (o := .cells #[.slice A2_0 l2_0.length c2_0, .slice A2_1 l2_1.length c2_1] 39 (0, 0)) (by (with_reducible repeat (first | refine blk_drewN ?_ _ | refine blk_drew ?_ | refine blk_alloc ?_ _)); exact BK318.out) hb); have n7_ := Aside0.mk (below_step (by repeat (first | (with_reducible first | exact HB.out | apply below_alloc | apply pw_below_drewN | apply below_drew1 | refine below_set ?_ GE316.out | refine below_set ?_ GE317.out | refine below_set ?_ GE318.out) | exact HB.out)) hb); clear HO_317000; clear HO_318000; clear HO342; clear BK316; clear BK317; clear BK318; clear HB; have HO_317000 := n0_; have HO_318000 := n1_; have HO342 := n2_; have HO346 := n3_; have BK316 := n4_; have BK317 := n5_; have BK318 := n6_; have HB := n7_; clear n0_ n1_ n2_ n3_ n4_ n5_ n6_ n7_; (try clear hb); (try clear hb2); (try clear hk); (try clear hi); (try clear ho0); have hcz94_0 : w93.cell? ⟨gb318, 0, none⟩ = some (.slice A2_0 l2_0.length c2_0) := (blk_cell BK318.out 0).trans rfl; have hcz94_1 : w93.cell? ⟨gb318, 1, none⟩ = some (.slice A2_1 l2_1.length c2_1) := (blk_cell BK318.out 1).trans rfl; have hfz94_0 := blk_frozen BK318.out 0; have hfz94_1 := blk_frozen BK318.out 1) | ((with_reducible refine gate_callee (f := 14) rfl ?_); refine goesL_ (some 71) rfl rfl Try.func14 (by kernel_rfl) rfl #[.slice A2_1 l2_1.length c2_1] rfl (by (try simp only [List.map_toArray, List.map_cons, List.map_nil]); first | done | rfl | (simp only [List.length_drop, List.length_take]; rfl)) ?_; (with_reducible refine (registrarlaw07_some.calls kj30 (fun k_ => k_ < w.heap.size) _ _ l2_1 t347 _ ?side1 A85.out).mono ?_); (case side1 => exact Kd.V_mk HC2_1.out (Kd.F_below (Kd.C_F k36_heap HR2_1.out) (by repeat (first | (with_reducible first | exact HB.out | apply below_alloc | apply pw_below_drewN | apply below_drew1 | refine below_set ?_ GE316.out | refine below_set ?_ GE317.out | refine below_set ?_ GE318.out) | exact HB.out)))); rintro e w95 ⟨v348, rfl, ho0, hb⟩; refine ⟨_, rfl, ?_⟩; have n0_ := Aside0.mk (Kd.N_elder' (by (with_reducible repeat (first | apply Kd.N_alloc | apply Kd.N_drewN | apply Kd.N_drew)); exact HO_317000.out) (Kd.N_base ho0) hb); have n1_ := Aside0.mk (Kd.N_elder' (by (with_reducible repeat (first | apply Kd.N_alloc | apply Kd.N_drewN | apply Kd.N_drew)); exact HO_318000.out) (Kd.N_base ho0) hb); have n2_ := Aside0.mk (Kd.N_elder' (by (with_reducible repeat (first | apply Kd.N_alloc | apply Kd.N_drewN | apply Kd.N_drew)); exact HO342.out) (Kd.N_base ho0) hb); have n3_ := Aside0.mk (Kd.R_below (by (with_reducible repeat (first | apply Kd.R_alloc | apply Kd.R_drewN | apply Kd.R_drew)); exact HO346.out) hb); have n4_ := Aside0.mk (Kd.N_lower (Kd.N_mono (ok' := fun k_ => some k_ ≠ (.slice Ao18 t320.length co18 : Value).ownBlock ∧ some k_ ≠ (.slice Ao24 t323.length co24 : Value).ownBlock ∧ some k_ ≠ (.slice Ao92 t340.length co92 : Value).ownBlock ∧ some k_ ≠ (v345 : Value).ownBlock ∧ k_ ≠ gb316 ∧ k_ ≠ gb317 ∧ k_ ≠ gb318) ho0 (fun k_ hk_ => ⟨Or.elim hk_ (fun hs_ => fun e_ => Nat.not_le.2 hs_ (Kd.N_base HO_317000.out k_ e_.symm)) (fun hn_ => (Kd.fresh' (Kd.N_lt (by (with_reducible repeat (first | apply Kd.N_alloc | apply Kd.N_drewN | apply Kd.N_drew)); exact HO_317000.out)) k_ hn_)), Or.elim hk_ (fun hs_ => fun e_ => Nat.not_le.2 hs_ (Kd.N_base HO_318000.out k_ e_.symm)) (fun hn_ => (Kd.fresh' (Kd.N_lt (by (with_reducible repeat (first | apply Kd.N_alloc | apply Kd.N_drewN | apply Kd.N_drew)); exact HO_318000.out)) k_ hn_)), Or.elim hk_ (fun hs_ => fun e_ => Nat.not_le.2 hs_ (Kd.N_base HO342.out k_ e_.symm)) (fun hn_ => (Kd.fresh' (Kd.N_lt (by (with_reducible repeat (first | apply Kd.N_alloc | apply Kd.N_drewN | apply Kd.N_drew)); exact HO342.out)) k_ hn_)), Or.elim hk_ (fun hs_ => fun e_ => Nat.not_le.2 hs_ (Kd.R_base HO346.out k_ e_.symm)) (fun hn_ => (Kd.fresh' (Kd.R_lt (by (with_reducible repeat (first | apply Kd.R_alloc | apply Kd.R_drewN | apply Kd.R_drew)); exact HO346.out)) k_ hn_)), Or.elim hk_ (fun hs_ => fun e_ => Nat.not_le.2 hs_ (by rw [e_]; exact GW316.out)) (fun hn_ => (Kd.freshB (g := gb316) (o := .cells #[.slice Ao18 t320.length co18] 25 (0, 0)) (by (with_reducible repeat (first | refine blk_drewN ?_ _ | refine blk_drew ?_ | refine blk_alloc ?_ _)); exact BK316.out) k_ hn_)), Or.elim hk_ (fun hs_ => fun e_ => Nat.not_le.2 hs_ (by rw [e_]; exact GW317.out)) (fun hn_ => (Kd.freshB (g := gb317) (o := .cells #[.slice Ao24 t323.length co24] 25 (0, 0)) (by (with_reducible repeat (first | refine blk_drewN ?_ _ | refine blk_drew ?_ | refine blk_alloc ?_ _)); exact BK317.out) k_ hn_)), Or.elim hk_ (fun hs_ => fun e_ => Nat.not_le.2 hs_ (by rw [e_]; exact GW318.out)) (fun hn_ => (Kd.freshB (g := gb318) (o := .cells #[.slice A2_0 l2_0.length c2_0, .slice A2_1 l2_1.length c2_1] 39 (0, 0)) (by (with_reducible repeat (first | refine blk_drewN ?_ _ | refine blk_drew ?_ | refine blk_alloc ?_ _)); exact BK318.out) k_ hn_))⟩)) (below_size (by repeat (first | (with_reducible first | exact HB.out | apply below_alloc | apply pw_below_drewN | apply below_drew1 | refine below_set ?_ GE316.out | refine below_set ?_ GE317.out | refine below_set ?_ GE318.out) | exact HB.out)))); have n5_ := Aside0.mk (blk_below (g := gb316) (o := .cells #[.slice Ao18 t320.length co18] 25 (0, 0)) (by (with_reducible repeat (first | refine blk_drewN ?_ _ | refine blk_drew ?_ | refine blk_alloc ?_ _)); exact BK316.out) hb); have n6_ := Aside0.mk (blk_below (g := gb317) (o := .cells #[.slice Ao24 t323.length co24] 25 (0, 0)) (by (with_reducible repeat (first | refine blk_drewN ?_ _ | refine blk_drew ?_ | refine blk_alloc ?_ _)); exact BK317.out) hb); have n7_ := Aside0.mk (blk_below (g := gb318) (o := .cells #[.slice A2_0 l2_0.length c2_0, .slice A2_1 l2_1.length c2_1] 39 (0, 0)) (by (with_reducible repeat (first | refine blk_drewN ?_ _ | refine blk_drew ?_ | refine blk_alloc ?_ _)); exact BK318.out) hb); have n8_ := Aside0.mk (below_step (by repeat (first | (with_reducible first | exact HB.out | apply below_alloc | apply pw_below_drewN | apply below_drew1 | refine below_set ?_ GE316.out | refine below_set ?_ GE317.out | refine below_set ?_ GE318.out) | exact HB.out)) hb); clear HO_317000; clear HO_318000; clear HO342; clear HO346; clear BK316; clear BK317; clear BK318; clear HB; have HO_317000 := n0_; have HO_318000 := n1_; have HO342 := n2_; have HO346 := n3_; have HO349 := n4_; have BK316 := n5_; have BK317 := n6_; have BK318 := n7_; have HB := n8_; clear n0_ n1_ n2_ n3_ n4_ n5_ n6_ n7_ n8_; (try clear hb); (try clear hb2); (try clear hk); (try clear hi); (try clear ho0); obtain ⟨Ao96, co96, eo96⟩ := Kd.N_slice HO349.out; subst eo96) | ((with_reducible refine gate_callee (f := 13) rfl ?_); refine goesL_ (some 72) rfl rfl Try.func13 (by kernel_rfl) rfl #[.slice Ao96 t347.length co96] rfl (by (try simp only [List.map_toArray, List.map_cons, List.map_nil]); first | done | rfl | (simp only [List.length_drop, List.length_take]; rfl)) ?_; (with_reducible refine (qcode_PutDefs.calls _ _ t347 t350 t351 _ ?side1 ?side2 A86.out).mono ?_); (case side1 => repeat (first | exact (Kd.N_reads' HO349.out).2.2 | (with_reducible refine Kd.C_alloc ?_ _) | (with_reducible refine Kd.C_drewN ?_ _) | (with_reducible refine Kd.C_drew ?_))); (case side2 => exact (Kd.N_reads' HO349.out).2.1); rintro e w97 ⟨v352, rfl, ho0, hb⟩; refine ⟨_, rfl, ?_⟩; have n0_ := Aside0.mk (Kd.N_elder' (by (with_reducible repeat (first | apply Kd.N_alloc | apply Kd.N_drewN | apply Kd.N_drew)); exact HO_317000.out) (Kd.R_base ho0) hb); have n1_ := Aside0.mk (Kd.N_elder' (by (with_reducible repeat (first | apply Kd.N_alloc | apply Kd.N_drewN | apply Kd.N_drew)); exact HO_318000.out) (Kd.R_base ho0) hb); have n2_ := Aside0.mk (Kd.N_elder' (by (with_reducible repeat (first | apply Kd.N_alloc | apply Kd.N_drewN | apply Kd.N_drew)); exact HO342.out) (Kd.R_base ho0) hb); have n3_ := Aside0.mk (Kd.R_elder' (by (with_reducible repeat (first | apply Kd.R_alloc | apply Kd.R_drewN | apply Kd.R_drew)); exact HO346.out) (Kd.R_base ho0) hb); have n4_ := Aside0.mk (Kd.N_elder' (by (with_reducible repeat (first | apply Kd.N_alloc | apply Kd.N_drewN | apply Kd.N_drew)); exact HO349.out) (Kd.R_base ho0) hb); have n5_ := Aside0.mk (Kd.R_lower (Kd.R_new' ho0 (Kd.R_lt (by (with_reducible repeat (first | apply Kd.R_alloc | apply Kd.R_drewN | apply Kd.R_drew)); exact HO346.out))) (below_size (by repeat (first | (with_reducible first | exact HB.out | apply below_alloc | apply pw_below_drewN | apply below_drew1 | refine below_set ?_ GE316.out | refine below_set ?_ GE317.out | refine below_set ?_ GE318.out) | exact HB.out)))); have n6_ := Aside0.mk (blk_below (g := gb316) (o := .cells #[.slice Ao18 t320.length co18] 25 (0, 0)) (by (with_reducible repeat (first | refine blk_drewN ?_ _ | refine blk_drew ?_ | refine blk_alloc ?_ _)); exact BK316.out) hb); have n7_ := Aside0.mk (blk_below (g := gb317) (o := .cells #[.slice Ao24 t323.length co24] 25 (0, 0)) (by (with_reducible repeat (first | refine blk_drewN ?_ _ | refine blk_drew ?_ | refine blk_alloc ?_ _)); exact BK317.out) hb); have n8_ := Aside0.mk (blk_below (g := gb318) (o := .cells #[.slice A2_0 l2_0.length c2_0, .slice A2_1 l2_1.length c2_1] 39 (0, 0)) (by (with_reducible repeat (first | refine blk_drewN ?_ _ | refine blk_drew ?_ | refine blk_alloc ?_ _)); exact BK318.out) hb); have n9_ := Aside0.mk (below_step (by repeat (first | (with_reducible first | exact HB.out | apply below_alloc | apply pw_below_drewN | apply below_drew1 | refine below_set ?_ GE316.out | refine below_set ?_ GE317.out | refine below_set ?_ GE318.out) | exact HB.out)) hb); clear HO_317000; clear HO_318000; clear HO342; clear HO346; clear HO349; clear BK316; clear BK317; clear BK318; clear HB; have HO_317000 := n0_; have HO_318000 := n1_; have HO342 := n2_; have HO346 := n3_; have HO349 := n4_; have HO353 := n5_; have BK316 := n6_; have BK317 := n7_; have BK318 := n8_; have HB := n9_; clear n0_ n1_ n2_ n3_ n4_ n5_ n6_ n7_ n8_ n9_; (try clear hb); (try clear hb2); (try clear hk); (try clear hi); (try clear ho0)))
          (try simp only [Act.put, List.setIfInBounds_toArray, List.set_cons_zero, List.set_cons_succ])
          go_cut [80] (fun v80 wc => ∃ (kq : Nat) (x80_86 : Bool), v80 = .bool x80_86 ∧ Aside0 (registrarlaw07_QcodeApart.j2 kq t319 t343 t350 x80_86 l2_0 l2_1 = some r) ∧ Aside0 (kq ≤ kj30) ∧ Aside0 (Kd.R (Kd.int .u8) 5 wc w.heap.size (fun k_ => some k_ ≠ (v352 : Value).ownBlock) v345 t343) ∧ Aside0 (Kd.R (Kd.int .u8) 5 wc w.heap.size (fun k_ => some k_ ≠ (v345 : Value).ownBlock) v352 t350) ∧ Aside0 (Kd.N k60 60 wc w.heap.size (fun k_ => some k_ ≠ (v345 : Value).ownBlock ∧ some k_ ≠ (v352 : Value).ownBlock ∧ some k_ ≠ ((.slice Ao24 t323.length co24) : Value).ownBlock ∧ k_ ≠ gb316 ∧ k_ ≠ gb317 ∧ k_ ≠ gb318) (.slice Ao18 t320.length co18) t320) ∧ Aside0 (Kd.N k60 60 wc w.heap.size (fun k_ => some k_ ≠ (v345 : Value).ownBlock ∧ some k_ ≠ (v352 : Value).ownBlock ∧ some k_ ≠ ((.slice Ao18 t320.length co18) : Value).ownBlock ∧ k_ ≠ gb316 ∧ k_ ≠ gb317 ∧ k_ ≠ gb318) (.slice Ao24 t323.length co24) t323) ∧ Aside0 (wc.heap[gb316]? = some (.cells #[(.slice Ao18 t320.length co18)] 25 (0, 0))) ∧ Aside0 (wc.heap[gb317]? = some (.cells #[(.slice Ao24 t323.length co24)] 25 (0, 0))) ∧ Aside0 (wc.heap[gb318]? = some (.cells #[(.slice A2_0 l2_0.length c2_0), (.slice A2_1 l2_1.length c2_1)] 39 (0, 0))) ∧ Aside0 (Below w.heap.size w wc))
          case first =>
            have H := HC87.out
            clear HC87
            by_cases c98 : t344 = 0
            · rw [if_pos c98] at H
              have c98b0 : (t344 == 0) = true := beq_iff_eq.mpr c98
              have c98b1 : (t344 != 0) = false := bne_eq_false_iff_eq.mpr c98
              clear c98
              (first | rw [c98b0] | (simp only [i64_w, i32_w]; rw [c98b0]) | skip)
              have H' := Aside0.mk H
              clear H
              go_wp2
              go_meet
              case rel => exact ⟨_, ((t351 != 0)), (by first | rfl | (simp; done) | (simp [*]; done)), H', ⟨by have := HJ8.out; have := HJ30.out; first | omega | exact Nat.le_refl _⟩, ⟨by (with_reducible repeat (first | apply Kd.R_alloc | apply Kd.R_drewN | apply Kd.R_drew)); exact Kd.R_mono HO346.out (fun _ hk => hk.2)⟩, ⟨by (with_reducible repeat (first | apply Kd.R_alloc | apply Kd.R_drewN | apply Kd.R_drew)); exact Kd.R_mono HO353.out (fun _ hk => hk.2)⟩, ⟨by (with_reducible repeat (first | apply Kd.N_alloc | apply Kd.N_drewN | apply Kd.N_drew)); exact Kd.N_mono HO_317000.out (fun _ hk => ⟨hk.1.1.2, ⟨hk.2, ⟨hk.1.1.1.1.1, ⟨hk.1.1.1.1.2.1, ⟨hk.1.1.1.1.2.2.1, hk.1.1.1.1.2.2.2⟩⟩⟩⟩⟩)⟩, ⟨by (with_reducible repeat (first | apply Kd.N_alloc | apply Kd.N_drewN | apply Kd.N_drew)); exact Kd.N_mono HO_318000.out (fun _ hk => ⟨hk.1.1.2, ⟨hk.2, ⟨hk.1.1.1.1.1, ⟨hk.1.1.1.1.2.1, ⟨hk.1.1.1.1.2.2.1, hk.1.1.1.1.2.2.2⟩⟩⟩⟩⟩)⟩, ⟨by (with_reducible repeat (first | refine blk_drewN ?_ _ | refine blk_drew ?_ | refine blk_alloc ?_ _)); exact BK316.out⟩, ⟨by (with_reducible repeat (first | refine blk_drewN ?_ _ | refine blk_drew ?_ | refine blk_alloc ?_ _)); exact BK317.out⟩, ⟨by (with_reducible repeat (first | refine blk_drewN ?_ _ | refine blk_drew ?_ | refine blk_alloc ?_ _)); exact BK318.out⟩, ⟨by repeat (first | (with_reducible first | exact HB.out | apply below_alloc | apply pw_below_drewN | apply below_drew1 | refine below_set ?_ GE316.out | refine below_set ?_ GE317.out | refine below_set ?_ GE318.out) | exact HB.out)⟩⟩
            · rw [if_neg c98] at H
              have c98b0 : (t344 == 0) = false := beq_eq_false_iff_ne.mpr c98
              have c98b1 : (t344 != 0) = true := bne_iff_ne.mpr c98
              (first | rw [c98b0] | (simp only [i64_w, i32_w]; rw [c98b0]) | skip)
              have H' := Aside0.mk H
              clear H
              go_wp2
              go_meet
              case rel => exact ⟨_, (true), (by first | rfl | (simp; done) | (simp [*]; done)), H', ⟨by have := HJ8.out; have := HJ30.out; first | omega | exact Nat.le_refl _⟩, ⟨by (with_reducible repeat (first | apply Kd.R_alloc | apply Kd.R_drewN | apply Kd.R_drew)); exact Kd.R_mono HO346.out (fun _ hk => hk.2)⟩, ⟨by (with_reducible repeat (first | apply Kd.R_alloc | apply Kd.R_drewN | apply Kd.R_drew)); exact Kd.R_mono HO353.out (fun _ hk => hk.2)⟩, ⟨by (with_reducible repeat (first | apply Kd.N_alloc | apply Kd.N_drewN | apply Kd.N_drew)); exact Kd.N_mono HO_317000.out (fun _ hk => ⟨hk.1.1.2, ⟨hk.2, ⟨hk.1.1.1.1.1, ⟨hk.1.1.1.1.2.1, ⟨hk.1.1.1.1.2.2.1, hk.1.1.1.1.2.2.2⟩⟩⟩⟩⟩)⟩, ⟨by (with_reducible repeat (first | apply Kd.N_alloc | apply Kd.N_drewN | apply Kd.N_drew)); exact Kd.N_mono HO_318000.out (fun _ hk => ⟨hk.1.1.2, ⟨hk.2, ⟨hk.1.1.1.1.1, ⟨hk.1.1.1.1.2.1, ⟨hk.1.1.1.1.2.2.1, hk.1.1.1.1.2.2.2⟩⟩⟩⟩⟩)⟩, ⟨by (with_reducible repeat (first | refine blk_drewN ?_ _ | refine blk_drew ?_ | refine blk_alloc ?_ _)); exact BK316.out⟩, ⟨by (with_reducible repeat (first | refine blk_drewN ?_ _ | refine blk_drew ?_ | refine blk_alloc ?_ _)); exact BK317.out⟩, ⟨by (with_reducible repeat (first | refine blk_drewN ?_ _ | refine blk_drew ?_ | refine blk_alloc ?_ _)); exact BK318.out⟩, ⟨by repeat (first | (with_reducible first | exact HB.out | apply below_alloc | apply pw_below_drewN | apply below_drew1 | refine below_set ?_ GE316.out | refine below_set ?_ GE317.out | refine below_set ?_ GE318.out) | exact HB.out)⟩⟩
          case rest =>
            clear HC87
            try clear c1
            try clear c2
            try clear p2
            try clear c3
            try clear hcv4
            try clear c5
            try clear c6
            try clear q6
            try clear hcv6
            try clear c7
            try clear c8
            try clear c9
            try clear c13
            try clear c14
            try clear c18
            try clear c32
            try clear c34
            try clear c34b0
            try clear c34b1
            try clear c35
            try clear c36
            try clear c37
            try clear c37b0
            try clear c37b1
            try clear c37b2
            try clear hcv48
            try clear c51
            try clear c52
            try clear c54
            try clear q60
            try clear hcv61
            try clear hcv62
            try clear c64
            try clear c64b0
            try clear c64b1
            try clear c64b2
            try clear c65
            try clear c66
            try clear c68
            try clear c74
            try clear c75
            try clear c77
            try clear c88
            try clear c89
            try clear c98
            try clear c98b0
            try clear c98b1
            try clear hcz53_0
            try clear hcz55_0
            try clear hcz67_0
            try clear hcz69_0
            try clear hcz76_0
            try clear hcz78_0
            try clear hcz90_0
            try clear hcz90_1
            try clear hcz94_0
            try clear hcz94_1
            try clear hfz53_0
            try clear hfz55_0
            try clear hfz67_0
            try clear hfz69_0
            try clear hfz76_0
            try clear hfz78_0
            try clear hfz90_0
            try clear hfz90_1
            try clear hfz94_0
            try clear hfz94_1
            try clear p2
            try clear q6
            try clear q60
            obtain ⟨kq, x80_86, rfl, HA, HJ86, HO_14, HO_16, HO_317000, HO_318000, BK316, BK317, BK318, HB⟩ := hcut
            cases kq with
            | zero => exact absurd HA.out (by simp [registrarlaw07_QcodeApart.j2])
            | succ kj86 =>
              have H := HA.out
              clear HA
              simp only [registrarlaw07_QcodeApart.j2] at H
              by_cases c99 : x80_86 = true
              · subst c99
                have H1 : (some t319) = some r := by rw [if_pos rfl] at H; exact H
                clear H
                have H := H1
                clear H1
                obtain rfl := Option.some.inj H
                go_wp2
                go_ret
                exact ⟨by first | rfl | (simp [errW_none, errW_some] <;> rfl) | (simp [*, errW_none, errW_some] <;> rfl), by repeat (first | (with_reducible first | exact HB.out | apply below_alloc | apply pw_below_drewN | apply below_drew1 | refine below_set ?_ GE316.out | refine below_set ?_ GE317.out | refine below_set ?_ GE318.out) | exact HB.out)⟩
              · replace c99 := Bool.eq_false_iff.mpr c99
                subst c99
                have H1 : ((registrarlaw07_some.f kj86 l2_0).bind fun t354 => ((registrarlaw07_some.f kj86 l2_1).bind fun t357 => ((registrarref07_SameDefsG.f t354 t357).bind fun t360 => (if t319 = true then (some (((strOfNums t343).toList == (strOfNums t350).toList) == t360)) else (some false))))) = some r := by rw [if_neg (show ¬ (false = true) by decide)] at H; exact H
                clear H
                have H := H1
                clear H1
                replace H := Option.bind_eq_some_iff.mp H
                obtain ⟨t354, A1000, H⟩ := H
                replace H : ((registrarlaw07_some.f kj86 l2_1).bind fun t357 => ((registrarref07_SameDefsG.f t354 t357).bind fun t360 => (if t319 = true then (some (((strOfNums t343).toList == (strOfNums t350).toList) == t360)) else (some false)))) = some r := H
                have A100 := Aside0.mk A1000
                clear A1000
                replace H := Option.bind_eq_some_iff.mp H
                obtain ⟨t357, A1010, H⟩ := H
                replace H : ((registrarref07_SameDefsG.f t354 t357).bind fun t360 => (if t319 = true then (some (((strOfNums t343).toList == (strOfNums t350).toList) == t360)) else (some false))) = some r := H
                have A101 := Aside0.mk A1010
                clear A1010
                replace H := Option.bind_eq_some_iff.mp H
                obtain ⟨t360, A1020, H⟩ := H
                replace H : (if t319 = true then (some (((strOfNums t343).toList == (strOfNums t350).toList) == t360)) else (some false)) = some r := H
                have A102 := Aside0.mk A1020
                clear A1020
                by_cases c103 : t319 = true
                · subst c103
                  have H1 : (some (((strOfNums t343).toList == (strOfNums t350).toList) == t360)) = some r := by rw [if_pos rfl] at H; exact H
                  clear H
                  have H := H1
                  clear H1
                  obtain rfl := Option.some.inj H
                  try go_wp2
                  have n0_ := Aside0.mk (Kd.R_drew HO_14.out)
                  have n1_ := Aside0.mk (Kd.R_drew HO_16.out)
                  have n2_ := Aside0.mk (Kd.N_drew HO_317000.out)
                  have n3_ := Aside0.mk (Kd.N_drew HO_318000.out)
                  have n4_ := Aside0.mk (blk_drew BK316.out)
                  have n5_ := Aside0.mk (blk_drew BK317.out)
                  have n6_ := Aside0.mk (blk_drew BK318.out)
                  have n7_ := Aside0.mk (below_drew1 HB.out)
                  clear HO_14
                  clear HO_16
                  clear HO_317000
                  clear HO_318000
                  clear BK316
                  clear BK317
                  clear BK318
                  clear HB
                  have HO_14 := n0_
                  have HO_16 := n1_
                  have HO_317000 := n2_
                  have HO_318000 := n3_
                  have BK316 := n4_
                  have BK317 := n5_
                  have BK318 := n6_
                  have HB := n7_
                  clear n0_ n1_ n2_ n3_ n4_ n5_ n6_ n7_
                  refine start_ (n := 8) (S := fun w' => w'.cell? ⟨gb318, 0, none⟩ = some (.slice A2_0 l2_0.length c2_0) ∧ w'.cell? ⟨gb318, 1, none⟩ = some (.slice A2_1 l2_1.length c2_1)) (ds := []) #[false, false, false, false, false, false, false, false] (by kernel_rfl) rfl rfl ⟨(blk_cell BK318.out 0).trans rfl, (blk_cell BK318.out 1).trans rfl⟩ (fun hHeld => ?_); refine with_tabW registrarlaw07_QcodeApart.tab15 registrarlaw07_QcodeApart.bits15 (fun HT_ HW_ => ?_)
                  generalize wc.drew = w104 at HO_14 HO_16 HO_317000 HO_318000 BK316 BK317 BK318 HB hHeld ⊢
                  refine pure_ (i := 0) (N := some 82) (v := ?_) (a' := ?_) #[true, false, false, false, false, false, false, false] rfl rfl (any_of HT_.out (by kernel_rfl)) (fun _ _ _ h => h) (Or.inl ⟨by rfl, ?_⟩) ?_ ?_
                  rotate_left
                  · intro w'
                    go_simp
                    with_reducible rfl
                  rotate_left
                  · simp only [Act.put, List.setIfInBounds_toArray, List.set_cons_zero, List.set_cons_succ, i64_w, i32_w]
                    rfl
                  refine pure_ (i := 3) (N := some 85) (v := ?_) (a' := ?_) #[true, false, false, true, false, false, false, false] rfl rfl (any_of HT_.out (by kernel_rfl)) (fun _ _ _ h => h) (Or.inl ⟨by rfl, ?_⟩) ?_ ?_
                  rotate_left
                  · intro w'
                    go_simp
                    with_reducible rfl
                  rotate_left
                  · simp only [Act.put, List.setIfInBounds_toArray, List.set_cons_zero, List.set_cons_succ, i64_w, i32_w]
                    rfl
                  refine take_ (i := 1) (N := some 83) (v := ?_) (a' := ?_) #[true, true, false, true, false, false, false, false] rfl rfl (take_ofW HT_.out HW_.out (by kernel_rfl)) (fun _ _ _ h => h) (Or.inl ⟨by rfl, ?_⟩) hHeld ?_ ?_
                  rotate_left
                  · rintro w' ⟨s0, s1⟩
                    go_simp
                    with_reducible rfl
                  rotate_left
                  · simp only [Act.put, List.setIfInBounds_toArray, List.set_cons_zero, List.set_cons_succ, i64_w, i32_w]
                    rfl
                  refine take_ (i := 4) (N := some 86) (v := ?_) (a' := ?_) #[true, true, false, true, true, false, false, false] rfl rfl (take_ofW HT_.out HW_.out (by kernel_rfl)) (fun _ _ _ h => h) (Or.inl ⟨by rfl, ?_⟩) hHeld ?_ ?_
                  rotate_left
                  · rintro w' ⟨s0, s1⟩
                    go_simp
                    with_reducible rfl
                  rotate_left
                  · simp only [Act.put, List.setIfInBounds_toArray, List.set_cons_zero, List.set_cons_succ, i64_w, i32_w]
                    rfl
                  refine one_ (i := 2) (N := some 84) #[true, true, true, true, true, false, false, false] rfl rfl (one_of HT_.out (by kernel_rfl)) (by decide) (fun K hK => ?_)
                  refine goes_ Try.func14 (by kernel_rfl) rfl #[.slice A2_0 l2_0.length c2_0] (by rfl) rfl rfl (by (try simp only [List.map_toArray, List.map_cons, List.map_nil]); first | done | rfl | (simp only [List.length_drop, List.length_take]; rfl)) ?_
                  with_reducible refine (registrarlaw07_some.calls kj86 (fun k_ => k_ < w.heap.size) _ _ l2_0 t354 _ ?side1 A100.out).mono ?_
                  (case side1 => exact Kd.V_mk HC2_0.out (Kd.F_below (Kd.C_F k36_heap HR2_0.out) (by repeat (first | (with_reducible first | exact HB.out | apply below_alloc | apply pw_below_drewN | apply below_drew1 | refine below_set ?_ GE316.out | refine below_set ?_ GE317.out | refine below_set ?_ GE318.out) | exact HB.out))))
                  rintro e w105 ⟨v355, rfl, ho0, hb⟩
                  refine ⟨_, rfl, ?_⟩
                  have n0_ := Aside0.mk (Kd.R_below (by (with_reducible repeat (first | apply Kd.R_alloc | apply Kd.R_drewN | apply Kd.R_drew)); exact HO_14.out) hb)
                  have n1_ := Aside0.mk (Kd.R_below (by (with_reducible repeat (first | apply Kd.R_alloc | apply Kd.R_drewN | apply Kd.R_drew)); exact HO_16.out) hb)
                  have n2_ := Aside0.mk (Kd.N_elder' (by (with_reducible repeat (first | apply Kd.N_alloc | apply Kd.N_drewN | apply Kd.N_drew)); exact HO_317000.out) (Kd.N_base ho0) hb)
                  have n3_ := Aside0.mk (Kd.N_elder' (by (with_reducible repeat (first | apply Kd.N_alloc | apply Kd.N_drewN | apply Kd.N_drew)); exact HO_318000.out) (Kd.N_base ho0) hb)
                  have n4_ := Aside0.mk (Kd.N_lower (Kd.N_mono (ok' := fun k_ => some k_ ≠ (v345 : Value).ownBlock ∧ some k_ ≠ (v352 : Value).ownBlock ∧ some k_ ≠ (.slice Ao18 t320.length co18 : Value).ownBlock ∧ some k_ ≠ (.slice Ao24 t323.length co24 : Value).ownBlock ∧ k_ ≠ gb316 ∧ k_ ≠ gb317 ∧ k_ ≠ gb318) ho0 (fun k_ hk_ => ⟨Or.elim hk_ (fun hs_ => fun e_ => Nat.not_le.2 hs_ (Kd.R_base HO_14.out k_ e_.symm)) (fun hn_ => (Kd.fresh' (Kd.R_lt (by (with_reducible repeat (first | apply Kd.R_alloc | apply Kd.R_drewN | apply Kd.R_drew)); exact HO_14.out)) k_ hn_)), Or.elim hk_ (fun hs_ => fun e_ => Nat.not_le.2 hs_ (Kd.R_base HO_16.out k_ e_.symm)) (fun hn_ => (Kd.fresh' (Kd.R_lt (by (with_reducible repeat (first | apply Kd.R_alloc | apply Kd.R_drewN | apply Kd.R_drew)); exact HO_16.out)) k_ hn_)), Or.elim hk_ (fun hs_ => fun e_ => Nat.not_le.2 hs_ (Kd.N_base HO_317000.out k_ e_.symm)) (fun hn_ => (Kd.fresh' (Kd.N_lt (by (with_reducible repeat (first | apply Kd.N_alloc | apply Kd.N_drewN | apply Kd.N_drew)); exact HO_317000.out)) k_ hn_)), Or.elim hk_ (fun hs_ => fun e_ => Nat.not_le.2 hs_ (Kd.N_base HO_318000.out k_ e_.symm)) (fun hn_ => (Kd.fresh' (Kd.N_lt (by (with_reducible repeat (first | apply Kd.N_alloc | apply Kd.N_drewN | apply Kd.N_drew)); exact HO_318000.out)) k_ hn_)), Or.elim hk_ (fun hs_ => fun e_ => Nat.not_le.2 hs_ (by rw [e_]; exact GW316.out)) (fun hn_ => (Kd.freshB (g := gb316) (o := .cells #[.slice Ao18 t320.length co18] 25 (0, 0)) (by (with_reducible repeat (first | refine blk_drewN ?_ _ | refine blk_drew ?_ | refine blk_alloc ?_ _)); exact BK316.out) k_ hn_)), Or.elim hk_ (fun hs_ => fun e_ => Nat.not_le.2 hs_ (by rw [e_]; exact GW317.out)) (fun hn_ => (Kd.freshB (g := gb317) (o := .cells #[.slice Ao24 t323.length co24] 25 (0, 0)) (by (with_reducible repeat (first | refine blk_drewN ?_ _ | refine blk_drew ?_ | refine blk_alloc ?_ _)); exact BK317.out) k_ hn_)), Or.elim hk_ (fun hs_ => fun e_ => Nat.not_le.2 hs_ (by rw [e_]; exact GW318.out)) (fun hn_ => (Kd.freshB (g := gb318) (o := .cells #[.slice A2_0 l2_0.length c2_0, .slice A2_1 l2_1.length c2_1] 39 (0, 0)) (by (with_reducible repeat (first | refine blk_drewN ?_ _ | refine blk_drew ?_ | refine blk_alloc ?_ _)); exact BK318.out) k_ hn_))⟩)) (below_size (by repeat (first | (with_reducible first | exact HB.out | apply below_alloc | apply pw_below_drewN | apply below_drew1 | refine below_set ?_ GE316.out | refine below_set ?_ GE317.out | refine below_set ?_ GE318.out) | exact HB.out))))
                  have n5_ := Aside0.mk (blk_below (g := gb316) (o := .cells #[.slice Ao18 t320.length co18] 25 (0, 0)) (by (with_reducible repeat (first | refine blk_drewN ?_ _ | refine blk_drew ?_ | refine blk_alloc ?_ _)); exact BK316.out) hb)
                  have n6_ := Aside0.mk (blk_below (g := gb317) (o := .cells #[.slice Ao24 t323.length co24] 25 (0, 0)) (by (with_reducible repeat (first | refine blk_drewN ?_ _ | refine blk_drew ?_ | refine blk_alloc ?_ _)); exact BK317.out) hb)
                  have n7_ := Aside0.mk (blk_below (g := gb318) (o := .cells #[.slice A2_0 l2_0.length c2_0, .slice A2_1 l2_1.length c2_1] 39 (0, 0)) (by (with_reducible repeat (first | refine blk_drewN ?_ _ | refine blk_drew ?_ | refine blk_alloc ?_ _)); exact BK318.out) hb)
                  have n8_ := Aside0.mk (below_step (by repeat (first | (with_reducible first | exact HB.out | apply below_alloc | apply pw_below_drewN | apply below_drew1 | refine below_set ?_ GE316.out | refine below_set ?_ GE317.out | refine below_set ?_ GE318.out) | exact HB.out)) hb)
                  clear HO_14
                  clear HO_16
                  clear HO_317000
                  clear HO_318000
                  clear BK316
                  clear BK317
                  clear BK318
                  clear HB
                  have HO_14 := n0_
                  have HO_16 := n1_
                  have HO_317000 := n2_
                  have HO_318000 := n3_
                  have HO356 := n4_
                  have BK316 := n5_
                  have BK317 := n6_
                  have BK318 := n7_
                  have HB := n8_
                  clear n0_ n1_ n2_ n3_ n4_ n5_ n6_ n7_ n8_
                  (try clear hb)
                  (try clear hb2)
                  (try clear hk)
                  (try clear hi)
                  (try clear ho0)
                  refine hK.out _ _ ⟨(blk_cell BK318.out 0).trans rfl, (blk_cell BK318.out 1).trans rfl⟩ (fun hHeld => ?_)
                  clear hK K
                  refine norm_ (a' := ?_) ?_ ?_
                  rotate_left
                  · show Act.put _ (some 84) _ = _
                    simp only [Act.put, List.setIfInBounds_toArray, List.set_cons_zero, List.set_cons_succ, i64_w, i32_w]
                    rfl
                  refine one_ (i := 5) (N := some 87) #[true, true, true, true, true, true, false, false] rfl rfl (one_of HT_.out (by kernel_rfl)) (by decide) (fun K hK => ?_)
                  refine goes_ Try.func14 (by kernel_rfl) rfl #[.slice A2_1 l2_1.length c2_1] (by rfl) rfl rfl (by (try simp only [List.map_toArray, List.map_cons, List.map_nil]); first | done | rfl | (simp only [List.length_drop, List.length_take]; rfl)) ?_
                  with_reducible refine (registrarlaw07_some.calls kj86 (fun k_ => k_ < w.heap.size) _ _ l2_1 t357 _ ?side1 A101.out).mono ?_
                  (case side1 => exact Kd.V_mk HC2_1.out (Kd.F_below (Kd.C_F k36_heap HR2_1.out) (by repeat (first | (with_reducible first | exact HB.out | apply below_alloc | apply pw_below_drewN | apply below_drew1 | refine below_set ?_ GE316.out | refine below_set ?_ GE317.out | refine below_set ?_ GE318.out) | exact HB.out))))
                  rintro e w106 ⟨v358, rfl, ho0, hb⟩
                  refine ⟨_, rfl, ?_⟩
                  have n0_ := Aside0.mk (Kd.R_below (by (with_reducible repeat (first | apply Kd.R_alloc | apply Kd.R_drewN | apply Kd.R_drew)); exact HO_14.out) hb)
                  have n1_ := Aside0.mk (Kd.R_below (by (with_reducible repeat (first | apply Kd.R_alloc | apply Kd.R_drewN | apply Kd.R_drew)); exact HO_16.out) hb)
                  have n2_ := Aside0.mk (Kd.N_elder' (by (with_reducible repeat (first | apply Kd.N_alloc | apply Kd.N_drewN | apply Kd.N_drew)); exact HO_317000.out) (Kd.N_base ho0) hb)
                  have n3_ := Aside0.mk (Kd.N_elder' (by (with_reducible repeat (first | apply Kd.N_alloc | apply Kd.N_drewN | apply Kd.N_drew)); exact HO_318000.out) (Kd.N_base ho0) hb)
                  have n4_ := Aside0.mk (Kd.N_elder' (by (with_reducible repeat (first | apply Kd.N_alloc | apply Kd.N_drewN | apply Kd.N_drew)); exact HO356.out) (Kd.N_base ho0) hb)
                  have n5_ := Aside0.mk (Kd.N_lower (Kd.N_mono (ok' := fun k_ => some k_ ≠ (v345 : Value).ownBlock ∧ some k_ ≠ (v352 : Value).ownBlock ∧ some k_ ≠ (.slice Ao18 t320.length co18 : Value).ownBlock ∧ some k_ ≠ (.slice Ao24 t323.length co24 : Value).ownBlock ∧ some k_ ≠ (v355 : Value).ownBlock ∧ k_ ≠ gb316 ∧ k_ ≠ gb317 ∧ k_ ≠ gb318) ho0 (fun k_ hk_ => ⟨Or.elim hk_ (fun hs_ => fun e_ => Nat.not_le.2 hs_ (Kd.R_base HO_14.out k_ e_.symm)) (fun hn_ => (Kd.fresh' (Kd.R_lt (by (with_reducible repeat (first | apply Kd.R_alloc | apply Kd.R_drewN | apply Kd.R_drew)); exact HO_14.out)) k_ hn_)), Or.elim hk_ (fun hs_ => fun e_ => Nat.not_le.2 hs_ (Kd.R_base HO_16.out k_ e_.symm)) (fun hn_ => (Kd.fresh' (Kd.R_lt (by (with_reducible repeat (first | apply Kd.R_alloc | apply Kd.R_drewN | apply Kd.R_drew)); exact HO_16.out)) k_ hn_)), Or.elim hk_ (fun hs_ => fun e_ => Nat.not_le.2 hs_ (Kd.N_base HO_317000.out k_ e_.symm)) (fun hn_ => (Kd.fresh' (Kd.N_lt (by (with_reducible repeat (first | apply Kd.N_alloc | apply Kd.N_drewN | apply Kd.N_drew)); exact HO_317000.out)) k_ hn_)), Or.elim hk_ (fun hs_ => fun e_ => Nat.not_le.2 hs_ (Kd.N_base HO_318000.out k_ e_.symm)) (fun hn_ => (Kd.fresh' (Kd.N_lt (by (with_reducible repeat (first | apply Kd.N_alloc | apply Kd.N_drewN | apply Kd.N_drew)); exact HO_318000.out)) k_ hn_)), Or.elim hk_ (fun hs_ => fun e_ => Nat.not_le.2 hs_ (Kd.N_base HO356.out k_ e_.symm)) (fun hn_ => (Kd.fresh' (Kd.N_lt (by (with_reducible repeat (first | apply Kd.N_alloc | apply Kd.N_drewN | apply Kd.N_drew)); exact HO356.out)) k_ hn_)), Or.elim hk_ (fun hs_ => fun e_ => Nat.not_le.2 hs_ (by rw [e_]; exact GW316.out)) (fun hn_ => (Kd.freshB (g := gb316) (o := .cells #[.slice Ao18 t320.length co18] 25 (0, 0)) (by (with_reducible repeat (first | refine blk_drewN ?_ _ | refine blk_drew ?_ | refine blk_alloc ?_ _)); exact BK316.out) k_ hn_)), Or.elim hk_ (fun hs_ => fun e_ => Nat.not_le.2 hs_ (by rw [e_]; exact GW317.out)) (fun hn_ => (Kd.freshB (g := gb317) (o := .cells #[.slice Ao24 t323.length co24] 25 (0, 0)) (by (with_reducible repeat (first | refine blk_drewN ?_ _ | refine blk_drew ?_ | refine blk_alloc ?_ _)); exact BK317.out) k_ hn_)), Or.elim hk_ (fun hs_ => fun e_ => Nat.not_le.2 hs_ (by rw [e_]; exact GW318.out)) (fun hn_ => (Kd.freshB (g := gb318) (o := .cells #[.slice A2_0 l2_0.length c2_0, .slice A2_1 l2_1.length c2_1] 39 (0, 0)) (by (with_reducible repeat (first | refine blk_drewN ?_ _ | refine blk_drew ?_ | refine blk_alloc ?_ _)); exact BK318.out) k_ hn_))⟩)) (below_size (by repeat (first | (with_reducible first | exact HB.out | apply below_alloc | apply pw_below_drewN | apply below_drew1 | refine below_set ?_ GE316.out | refine below_set ?_ GE317.out | refine below_set ?_ GE318.out) | exact HB.out))))
                  have n6_ := Aside0.mk (blk_below (g := gb316) (o := .cells #[.slice Ao18 t320.length co18] 25 (0, 0)) (by (with_reducible repeat (first | refine blk_drewN ?_ _ | refine blk_drew ?_ | refine blk_alloc ?_ _)); exact BK316.out) hb)
                  have n7_ := Aside0.mk (blk_below (g := gb317) (o := .cells #[.slice Ao24 t323.length co24] 25 (0, 0)) (by (with_reducible repeat (first | refine blk_drewN ?_ _ | refine blk_drew ?_ | refine blk_alloc ?_ _)); exact BK317.out) hb)
                  have n8_ := Aside0.mk (blk_below (g := gb318) (o := .cells #[.slice A2_0 l2_0.length c2_0, .slice A2_1 l2_1.length c2_1] 39 (0, 0)) (by (with_reducible repeat (first | refine blk_drewN ?_ _ | refine blk_drew ?_ | refine blk_alloc ?_ _)); exact BK318.out) hb)
                  have n9_ := Aside0.mk (below_step (by repeat (first | (with_reducible first | exact HB.out | apply below_alloc | apply pw_below_drewN | apply below_drew1 | refine below_set ?_ GE316.out | refine below_set ?_ GE317.out | refine below_set ?_ GE318.out) | exact HB.out)) hb)
                  clear HO_14
                  clear HO_16
                  clear HO_317000
                  clear HO_318000
                  clear HO356
                  clear BK316
                  clear BK317
                  clear BK318
                  clear HB
                  have HO_14 := n0_
                  have HO_16 := n1_
                  have HO_317000 := n2_
                  have HO_318000 := n3_
                  have HO356 := n4_
                  have HO359 := n5_
                  have BK316 := n6_
                  have BK317 := n7_
                  have BK318 := n8_
                  have HB := n9_
                  clear n0_ n1_ n2_ n3_ n4_ n5_ n6_ n7_ n8_ n9_
                  (try clear hb)
                  (try clear hb2)
                  (try clear hk)
                  (try clear hi)
                  (try clear ho0)
                  obtain ⟨Ao107, co107, eo107⟩ := Kd.N_slice HO356.out
                  (first | subst eo107 | (injection eo107 with f1_ f2_ f3_; have f4_ := f1_.symm; have f5_ := f3_.symm; clear f1_ f2_ f3_; subst f4_; subst f5_))
                  obtain ⟨Ao108, co108, eo108⟩ := Kd.N_slice HO359.out
                  (first | subst eo108 | (injection eo108 with f1_ f2_ f3_; have f4_ := f1_.symm; have f5_ := f3_.symm; clear f1_ f2_ f3_; subst f4_; subst f5_))
                  refine hK.out _ _ ⟨(blk_cell BK318.out 0).trans rfl, (blk_cell BK318.out 1).trans rfl⟩ (fun hHeld => ?_)
                  clear hK K
                  refine norm_ (a' := ?_) ?_ ?_
                  rotate_left
                  · show Act.put _ (some 87) _ = _
                    simp only [Act.put, List.setIfInBounds_toArray, List.set_cons_zero, List.set_cons_succ, i64_w, i32_w]
                    rfl
                  refine one_ (i := 6) (N := some 88) #[true, true, true, true, true, true, true, false] rfl rfl (one_of HT_.out (by kernel_rfl)) (by decide) (fun K hK => ?_)
                  refine goes_ Try.func19 (by kernel_rfl) rfl #[.slice Ao107 t354.length co107, .slice Ao108 t357.length co108] (by rfl) rfl rfl (by (try simp only [List.map_toArray, List.map_cons, List.map_nil]); first | done | rfl | (simp only [List.length_drop, List.length_take]; rfl)) ?_
                  with_reducible refine (registrarref07_SameDefsG.calls _ _ t354 _ _ t357 t360 _ ?side1 ?side2 ?side3 ?side4 A102.out).mono ?_
                  (case side1 => repeat (first | exact (Kd.N_reads' HO356.out).2.2 | (with_reducible refine Kd.C_alloc ?_ _) | (with_reducible refine Kd.C_drewN ?_ _) | (with_reducible refine Kd.C_drew ?_)))
                  (case side2 => exact (Kd.N_reads' HO356.out).2.1)
                  (case side3 => repeat (first | exact (Kd.N_reads' HO359.out).2.2 | (with_reducible refine Kd.C_alloc ?_ _) | (with_reducible refine Kd.C_drewN ?_ _) | (with_reducible refine Kd.C_drew ?_)))
                  (case side4 => exact (Kd.N_reads' HO359.out).2.1)
                  rintro e w109 ⟨rfl, hb⟩
                  refine ⟨_, rfl, ?_⟩
                  have n0_ := Aside0.mk (Kd.R_below (by (with_reducible repeat (first | apply Kd.R_alloc | apply Kd.R_drewN | apply Kd.R_drew)); exact HO_14.out) hb)
                  have n1_ := Aside0.mk (Kd.R_below (by (with_reducible repeat (first | apply Kd.R_alloc | apply Kd.R_drewN | apply Kd.R_drew)); exact HO_16.out) hb)
                  have n2_ := Aside0.mk (Kd.N_below (by (with_reducible repeat (first | apply Kd.N_alloc | apply Kd.N_drewN | apply Kd.N_drew)); exact HO_317000.out) hb)
                  have n3_ := Aside0.mk (Kd.N_below (by (with_reducible repeat (first | apply Kd.N_alloc | apply Kd.N_drewN | apply Kd.N_drew)); exact HO_318000.out) hb)
                  have n4_ := Aside0.mk (Kd.N_below (by (with_reducible repeat (first | apply Kd.N_alloc | apply Kd.N_drewN | apply Kd.N_drew)); exact HO356.out) hb)
                  have n5_ := Aside0.mk (Kd.N_below (by (with_reducible repeat (first | apply Kd.N_alloc | apply Kd.N_drewN | apply Kd.N_drew)); exact HO359.out) hb)
                  have n6_ := Aside0.mk (blk_below (g := gb316) (o := .cells #[.slice Ao18 t320.length co18] 25 (0, 0)) (by (with_reducible repeat (first | refine blk_drewN ?_ _ | refine blk_drew ?_ | refine blk_alloc ?_ _)); exact BK316.out) hb)
                  have n7_ := Aside0.mk (blk_below (g := gb317) (o := .cells #[.slice Ao24 t323.length co24] 25 (0, 0)) (by (with_reducible repeat (first | refine blk_drewN ?_ _ | refine blk_drew ?_ | refine blk_alloc ?_ _)); exact BK317.out) hb)
                  have n8_ := Aside0.mk (blk_below (g := gb318) (o := .cells #[.slice A2_0 l2_0.length c2_0, .slice A2_1 l2_1.length c2_1] 39 (0, 0)) (by (with_reducible repeat (first | refine blk_drewN ?_ _ | refine blk_drew ?_ | refine blk_alloc ?_ _)); exact BK318.out) hb)
                  have n9_ := Aside0.mk (below_step (by repeat (first | (with_reducible first | exact HB.out | apply below_alloc | apply pw_below_drewN | apply below_drew1 | refine below_set ?_ GE316.out | refine below_set ?_ GE317.out | refine below_set ?_ GE318.out) | exact HB.out)) hb)
                  clear HO_14
                  clear HO_16
                  clear HO_317000
                  clear HO_318000
                  clear HO356
                  clear HO359
                  clear BK316
                  clear BK317
                  clear BK318
                  clear HB
                  have HO_14 := n0_
                  have HO_16 := n1_
                  have HO_317000 := n2_
                  have HO_318000 := n3_
                  have HO356 := n4_
                  have HO359 := n5_
                  have BK316 := n6_
                  have BK317 := n7_
                  have BK318 := n8_
                  have HB := n9_
                  clear n0_ n1_ n2_ n3_ n4_ n5_ n6_ n7_ n8_ n9_
                  (try clear hb)
                  (try clear hb2)
                  (try clear hk)
                  (try clear hi)
                  refine hK.out _ _ ⟨(blk_cell BK318.out 0).trans rfl, (blk_cell BK318.out 1).trans rfl⟩ (fun hHeld => ?_)
                  clear hK K
                  refine norm_ (a' := ?_) ?_ ?_
                  rotate_left
                  · show Act.put _ (some 88) _ = _
                    simp only [Act.put, List.setIfInBounds_toArray, List.set_cons_zero, List.set_cons_succ, i64_w, i32_w]
                    rfl
                  refine pure_ (i := 7) (N := some 18) (v := ?_) (a' := ?_) #[true, true, true, true, true, true, true, true] rfl rfl (any_of HT_.out (by kernel_rfl)) (fun _ _ _ h => h) (Or.inl ⟨by rfl, ?_⟩) ?_ ?_
                  rotate_left
                  · intro w'
                    go_simp
                    with_reducible rfl
                  rotate_left
                  · simp only [Act.put, List.setIfInBounds_toArray, List.set_cons_zero, List.set_cons_succ, i64_w, i32_w]
                    rfl
                  refine done_ (done_of HT_.out (by kernel_rfl)) ?_
                  have hcv110 := own_string (P := Try.prog) Try.underlying22 Try.underlying5 Try.underlying9 (Kd.own_of_R HO_14.out)
                  have hcv111 := own_string (P := Try.prog) Try.underlying22 Try.underlying5 Try.underlying9 (Kd.own_of_R HO_16.out)
                  try go_wp2
                  go_ret
                  exact ⟨by first | rfl | (simp [errW_none, errW_some] <;> rfl) | (simp [*, errW_none, errW_some] <;> rfl), by repeat (first | (with_reducible first | exact HB.out | apply below_alloc | apply pw_below_drewN | apply below_drew1 | refine below_set ?_ GE316.out | refine below_set ?_ GE317.out | refine below_set ?_ GE318.out) | exact HB.out)⟩
                · replace c103 := Bool.eq_false_iff.mpr c103
                  subst c103
                  have H1 : (some false) = some r := by rw [if_neg (show ¬ (false = true) by decide)] at H; exact H
                  clear H
                  have H := H1
                  clear H1
                  obtain rfl := Option.some.inj H
                  try go_wp2
                  have n0_ := Aside0.mk (Kd.R_drew HO_14.out)
                  have n1_ := Aside0.mk (Kd.R_drew HO_16.out)
                  have n2_ := Aside0.mk (Kd.N_drew HO_317000.out)
                  have n3_ := Aside0.mk (Kd.N_drew HO_318000.out)
                  have n4_ := Aside0.mk (blk_drew BK316.out)
                  have n5_ := Aside0.mk (blk_drew BK317.out)
                  have n6_ := Aside0.mk (blk_drew BK318.out)
                  have n7_ := Aside0.mk (below_drew1 HB.out)
                  clear HO_14
                  clear HO_16
                  clear HO_317000
                  clear HO_318000
                  clear BK316
                  clear BK317
                  clear BK318
                  clear HB
                  have HO_14 := n0_
                  have HO_16 := n1_
                  have HO_317000 := n2_
                  have HO_318000 := n3_
                  have BK316 := n4_
                  have BK317 := n5_
                  have BK318 := n6_
                  have HB := n7_
                  clear n0_ n1_ n2_ n3_ n4_ n5_ n6_ n7_
                  refine start_ (n := 8) (S := fun w' => w'.cell? ⟨gb318, 0, none⟩ = some (.slice A2_0 l2_0.length c2_0) ∧ w'.cell? ⟨gb318, 1, none⟩ = some (.slice A2_1 l2_1.length c2_1)) (ds := []) #[false, false, false, false, false, false, false, false] (by kernel_rfl) rfl rfl ⟨(blk_cell BK318.out 0).trans rfl, (blk_cell BK318.out 1).trans rfl⟩ (fun hHeld => ?_); refine with_tabW registrarlaw07_QcodeApart.tab15 registrarlaw07_QcodeApart.bits15 (fun HT_ HW_ => ?_)
                  generalize wc.drew = w112 at HO_14 HO_16 HO_317000 HO_318000 BK316 BK317 BK318 HB hHeld ⊢
                  refine pure_ (i := 0) (N := some 82) (v := ?_) (a' := ?_) #[true, false, false, false, false, false, false, false] rfl rfl (any_of HT_.out (by kernel_rfl)) (fun _ _ _ h => h) (Or.inl ⟨by rfl, ?_⟩) ?_ ?_
                  rotate_left
                  · intro w'
                    go_simp
                    with_reducible rfl
                  rotate_left
                  · simp only [Act.put, List.setIfInBounds_toArray, List.set_cons_zero, List.set_cons_succ, i64_w, i32_w]
                    rfl
                  refine pure_ (i := 3) (N := some 85) (v := ?_) (a' := ?_) #[true, false, false, true, false, false, false, false] rfl rfl (any_of HT_.out (by kernel_rfl)) (fun _ _ _ h => h) (Or.inl ⟨by rfl, ?_⟩) ?_ ?_
                  rotate_left
                  · intro w'
                    go_simp
                    with_reducible rfl
                  rotate_left
                  · simp only [Act.put, List.setIfInBounds_toArray, List.set_cons_zero, List.set_cons_succ, i64_w, i32_w]
                    rfl
                  refine take_ (i := 1) (N := some 83) (v := ?_) (a' := ?_) #[true, true, false, true, false, false, false, false] rfl rfl (take_ofW HT_.out HW_.out (by kernel_rfl)) (fun _ _ _ h => h) (Or.inl ⟨by rfl, ?_⟩) hHeld ?_ ?_
                  rotate_left
                  · rintro w' ⟨s0, s1⟩
                    go_simp
                    with_reducible rfl
                  rotate_left
                  · simp only [Act.put, List.setIfInBounds_toArray, List.set_cons_zero, List.set_cons_succ, i64_w, i32_w]
                    rfl
                  refine take_ (i := 4) (N := some 86) (v := ?_) (a' := ?_) #[true, true, false, true, true, false, false, false] rfl rfl (take_ofW HT_.out HW_.out (by kernel_rfl)) (fun _ _ _ h => h) (Or.inl ⟨by rfl, ?_⟩) hHeld ?_ ?_
                  rotate_left
                  · rintro w' ⟨s0, s1⟩
                    go_simp
                    with_reducible rfl
                  rotate_left
                  · simp only [Act.put, List.setIfInBounds_toArray, List.set_cons_zero, List.set_cons_succ, i64_w, i32_w]
                    rfl
                  refine one_ (i := 2) (N := some 84) #[true, true, true, true, true, false, false, false] rfl rfl (one_of HT_.out (by kernel_rfl)) (by decide) (fun K hK => ?_)
                  refine goes_ Try.func14 (by kernel_rfl) rfl #[.slice A2_0 l2_0.length c2_0] (by rfl) rfl rfl (by (try simp only [List.map_toArray, List.map_cons, List.map_nil]); first | done | rfl | (simp only [List.length_drop, List.length_take]; rfl)) ?_
                  with_reducible refine (registrarlaw07_some.calls kj86 (fun k_ => k_ < w.heap.size) _ _ l2_0 t354 _ ?side1 A100.out).mono ?_
                  (case side1 => exact Kd.V_mk HC2_0.out (Kd.F_below (Kd.C_F k36_heap HR2_0.out) (by repeat (first | (with_reducible first | exact HB.out | apply below_alloc | apply pw_below_drewN | apply below_drew1 | refine below_set ?_ GE316.out | refine below_set ?_ GE317.out | refine below_set ?_ GE318.out) | exact HB.out))))
                  rintro e w113 ⟨v355, rfl, ho0, hb⟩
                  refine ⟨_, rfl, ?_⟩
                  have n0_ := Aside0.mk (Kd.R_below (by (with_reducible repeat (first | apply Kd.R_alloc | apply Kd.R_drewN | apply Kd.R_drew)); exact HO_14.out) hb)
                  have n1_ := Aside0.mk (Kd.R_below (by (with_reducible repeat (first | apply Kd.R_alloc | apply Kd.R_drewN | apply Kd.R_drew)); exact HO_16.out) hb)
                  have n2_ := Aside0.mk (Kd.N_elder' (by (with_reducible repeat (first | apply Kd.N_alloc | apply Kd.N_drewN | apply Kd.N_drew)); exact HO_317000.out) (Kd.N_base ho0) hb)
                  have n3_ := Aside0.mk (Kd.N_elder' (by (with_reducible repeat (first | apply Kd.N_alloc | apply Kd.N_drewN | apply Kd.N_drew)); exact HO_318000.out) (Kd.N_base ho0) hb)
                  have n4_ := Aside0.mk (Kd.N_lower (Kd.N_mono (ok' := fun k_ => some k_ ≠ (v345 : Value).ownBlock ∧ some k_ ≠ (v352 : Value).ownBlock ∧ some k_ ≠ (.slice Ao18 t320.length co18 : Value).ownBlock ∧ some k_ ≠ (.slice Ao24 t323.length co24 : Value).ownBlock ∧ k_ ≠ gb316 ∧ k_ ≠ gb317 ∧ k_ ≠ gb318) ho0 (fun k_ hk_ => ⟨Or.elim hk_ (fun hs_ => fun e_ => Nat.not_le.2 hs_ (Kd.R_base HO_14.out k_ e_.symm)) (fun hn_ => (Kd.fresh' (Kd.R_lt (by (with_reducible repeat (first | apply Kd.R_alloc | apply Kd.R_drewN | apply Kd.R_drew)); exact HO_14.out)) k_ hn_)), Or.elim hk_ (fun hs_ => fun e_ => Nat.not_le.2 hs_ (Kd.R_base HO_16.out k_ e_.symm)) (fun hn_ => (Kd.fresh' (Kd.R_lt (by (with_reducible repeat (first | apply Kd.R_alloc | apply Kd.R_drewN | apply Kd.R_drew)); exact HO_16.out)) k_ hn_)), Or.elim hk_ (fun hs_ => fun e_ => Nat.not_le.2 hs_ (Kd.N_base HO_317000.out k_ e_.symm)) (fun hn_ => (Kd.fresh' (Kd.N_lt (by (with_reducible repeat (first | apply Kd.N_alloc | apply Kd.N_drewN | apply Kd.N_drew)); exact HO_317000.out)) k_ hn_)), Or.elim hk_ (fun hs_ => fun e_ => Nat.not_le.2 hs_ (Kd.N_base HO_318000.out k_ e_.symm)) (fun hn_ => (Kd.fresh' (Kd.N_lt (by (with_reducible repeat (first | apply Kd.N_alloc | apply Kd.N_drewN | apply Kd.N_drew)); exact HO_318000.out)) k_ hn_)), Or.elim hk_ (fun hs_ => fun e_ => Nat.not_le.2 hs_ (by rw [e_]; exact GW316.out)) (fun hn_ => (Kd.freshB (g := gb316) (o := .cells #[.slice Ao18 t320.length co18] 25 (0, 0)) (by (with_reducible repeat (first | refine blk_drewN ?_ _ | refine blk_drew ?_ | refine blk_alloc ?_ _)); exact BK316.out) k_ hn_)), Or.elim hk_ (fun hs_ => fun e_ => Nat.not_le.2 hs_ (by rw [e_]; exact GW317.out)) (fun hn_ => (Kd.freshB (g := gb317) (o := .cells #[.slice Ao24 t323.length co24] 25 (0, 0)) (by (with_reducible repeat (first | refine blk_drewN ?_ _ | refine blk_drew ?_ | refine blk_alloc ?_ _)); exact BK317.out) k_ hn_)), Or.elim hk_ (fun hs_ => fun e_ => Nat.not_le.2 hs_ (by rw [e_]; exact GW318.out)) (fun hn_ => (Kd.freshB (g := gb318) (o := .cells #[.slice A2_0 l2_0.length c2_0, .slice A2_1 l2_1.length c2_1] 39 (0, 0)) (by (with_reducible repeat (first | refine blk_drewN ?_ _ | refine blk_drew ?_ | refine blk_alloc ?_ _)); exact BK318.out) k_ hn_))⟩)) (below_size (by repeat (first | (with_reducible first | exact HB.out | apply below_alloc | apply pw_below_drewN | apply below_drew1 | refine below_set ?_ GE316.out | refine below_set ?_ GE317.out | refine below_set ?_ GE318.out) | exact HB.out))))
                  have n5_ := Aside0.mk (blk_below (g := gb316) (o := .cells #[.slice Ao18 t320.length co18] 25 (0, 0)) (by (with_reducible repeat (first | refine blk_drewN ?_ _ | refine blk_drew ?_ | refine blk_alloc ?_ _)); exact BK316.out) hb)
                  have n6_ := Aside0.mk (blk_below (g := gb317) (o := .cells #[.slice Ao24 t323.length co24] 25 (0, 0)) (by (with_reducible repeat (first | refine blk_drewN ?_ _ | refine blk_drew ?_ | refine blk_alloc ?_ _)); exact BK317.out) hb)
                  have n7_ := Aside0.mk (blk_below (g := gb318) (o := .cells #[.slice A2_0 l2_0.length c2_0, .slice A2_1 l2_1.length c2_1] 39 (0, 0)) (by (with_reducible repeat (first | refine blk_drewN ?_ _ | refine blk_drew ?_ | refine blk_alloc ?_ _)); exact BK318.out) hb)
                  have n8_ := Aside0.mk (below_step (by repeat (first | (with_reducible first | exact HB.out | apply below_alloc | apply pw_below_drewN | apply below_drew1 | refine below_set ?_ GE316.out | refine below_set ?_ GE317.out | refine below_set ?_ GE318.out) | exact HB.out)) hb)
                  clear HO_14
                  clear HO_16
                  clear HO_317000
                  clear HO_318000
                  clear BK316
                  clear BK317
                  clear BK318
                  clear HB
                  have HO_14 := n0_
                  have HO_16 := n1_
                  have HO_317000 := n2_
                  have HO_318000 := n3_
                  have HO356 := n4_
                  have BK316 := n5_
                  have BK317 := n6_
                  have BK318 := n7_
                  have HB := n8_
                  clear n0_ n1_ n2_ n3_ n4_ n5_ n6_ n7_ n8_
                  (try clear hb)
                  (try clear hb2)
                  (try clear hk)
                  (try clear hi)
                  (try clear ho0)
                  refine hK.out _ _ ⟨(blk_cell BK318.out 0).trans rfl, (blk_cell BK318.out 1).trans rfl⟩ (fun hHeld => ?_)
                  clear hK K
                  refine norm_ (a' := ?_) ?_ ?_
                  rotate_left
                  · show Act.put _ (some 84) _ = _
                    simp only [Act.put, List.setIfInBounds_toArray, List.set_cons_zero, List.set_cons_succ, i64_w, i32_w]
                    rfl
                  refine one_ (i := 5) (N := some 87) #[true, true, true, true, true, true, false, false] rfl rfl (one_of HT_.out (by kernel_rfl)) (by decide) (fun K hK => ?_)
                  refine goes_ Try.func14 (by kernel_rfl) rfl #[.slice A2_1 l2_1.length c2_1] (by rfl) rfl rfl (by (try simp only [List.map_toArray, List.map_cons, List.map_nil]); first | done | rfl | (simp only [List.length_drop, List.length_take]; rfl)) ?_
                  with_reducible refine (registrarlaw07_some.calls kj86 (fun k_ => k_ < w.heap.size) _ _ l2_1 t357 _ ?side1 A101.out).mono ?_
                  (case side1 => exact Kd.V_mk HC2_1.out (Kd.F_below (Kd.C_F k36_heap HR2_1.out) (by repeat (first | (with_reducible first | exact HB.out | apply below_alloc | apply pw_below_drewN | apply below_drew1 | refine below_set ?_ GE316.out | refine below_set ?_ GE317.out | refine below_set ?_ GE318.out) | exact HB.out))))
                  rintro e w114 ⟨v358, rfl, ho0, hb⟩
                  refine ⟨_, rfl, ?_⟩
                  have n0_ := Aside0.mk (Kd.R_below (by (with_reducible repeat (first | apply Kd.R_alloc | apply Kd.R_drewN | apply Kd.R_drew)); exact HO_14.out) hb)
                  have n1_ := Aside0.mk (Kd.R_below (by (with_reducible repeat (first | apply Kd.R_alloc | apply Kd.R_drewN | apply Kd.R_drew)); exact HO_16.out) hb)
                  have n2_ := Aside0.mk (Kd.N_elder' (by (with_reducible repeat (first | apply Kd.N_alloc | apply Kd.N_drewN | apply Kd.N_drew)); exact HO_317000.out) (Kd.N_base ho0) hb)
                  have n3_ := Aside0.mk (Kd.N_elder' (by (with_reducible repeat (first | apply Kd.N_alloc | apply Kd.N_drewN | apply Kd.N_drew)); exact HO_318000.out) (Kd.N_base ho0) hb)
                  have n4_ := Aside0.mk (Kd.N_elder' (by (with_reducible repeat (first | apply Kd.N_alloc | apply Kd.N_drewN | apply Kd.N_drew)); exact HO356.out) (Kd.N_base ho0) hb)
                  have n5_ := Aside0.mk (Kd.N_lower (Kd.N_mono (ok' := fun k_ => some k_ ≠ (v345 : Value).ownBlock ∧ some k_ ≠ (v352 : Value).ownBlock ∧ some k_ ≠ (.slice Ao18 t320.length co18 : Value).ownBlock ∧ some k_ ≠ (.slice Ao24 t323.length co24 : Value).ownBlock ∧ some k_ ≠ (v355 : Value).ownBlock ∧ k_ ≠ gb316 ∧ k_ ≠ gb317 ∧ k_ ≠ gb318) ho0 (fun k_ hk_ => ⟨Or.elim hk_ (fun hs_ => fun e_ => Nat.not_le.2 hs_ (Kd.R_base HO_14.out k_ e_.symm)) (fun hn_ => (Kd.fresh' (Kd.R_lt (by (with_reducible repeat (first | apply Kd.R_alloc | apply Kd.R_drewN | apply Kd.R_drew)); exact HO_14.out)) k_ hn_)), Or.elim hk_ (fun hs_ => fun e_ => Nat.not_le.2 hs_ (Kd.R_base HO_16.out k_ e_.symm)) (fun hn_ => (Kd.fresh' (Kd.R_lt (by (with_reducible repeat (first | apply Kd.R_alloc | apply Kd.R_drewN | apply Kd.R_drew)); exact HO_16.out)) k_ hn_)), Or.elim hk_ (fun hs_ => fun e_ => Nat.not_le.2 hs_ (Kd.N_base HO_317000.out k_ e_.symm)) (fun hn_ => (Kd.fresh' (Kd.N_lt (by (with_reducible repeat (first | apply Kd.N_alloc | apply Kd.N_drewN | apply Kd.N_drew)); exact HO_317000.out)) k_ hn_)), Or.elim hk_ (fun hs_ => fun e_ => Nat.not_le.2 hs_ (Kd.N_base HO_318000.out k_ e_.symm)) (fun hn_ => (Kd.fresh' (Kd.N_lt (by (with_reducible repeat (first | apply Kd.N_alloc | apply Kd.N_drewN | apply Kd.N_drew)); exact HO_318000.out)) k_ hn_)), Or.elim hk_ (fun hs_ => fun e_ => Nat.not_le.2 hs_ (Kd.N_base HO356.out k_ e_.symm)) (fun hn_ => (Kd.fresh' (Kd.N_lt (by (with_reducible repeat (first | apply Kd.N_alloc | apply Kd.N_drewN | apply Kd.N_drew)); exact HO356.out)) k_ hn_)), Or.elim hk_ (fun hs_ => fun e_ => Nat.not_le.2 hs_ (by rw [e_]; exact GW316.out)) (fun hn_ => (Kd.freshB (g := gb316) (o := .cells #[.slice Ao18 t320.length co18] 25 (0, 0)) (by (with_reducible repeat (first | refine blk_drewN ?_ _ | refine blk_drew ?_ | refine blk_alloc ?_ _)); exact BK316.out) k_ hn_)), Or.elim hk_ (fun hs_ => fun e_ => Nat.not_le.2 hs_ (by rw [e_]; exact GW317.out)) (fun hn_ => (Kd.freshB (g := gb317) (o := .cells #[.slice Ao24 t323.length co24] 25 (0, 0)) (by (with_reducible repeat (first | refine blk_drewN ?_ _ | refine blk_drew ?_ | refine blk_alloc ?_ _)); exact BK317.out) k_ hn_)), Or.elim hk_ (fun hs_ => fun e_ => Nat.not_le.2 hs_ (by rw [e_]; exact GW318.out)) (fun hn_ => (Kd.freshB (g := gb318) (o := .cells #[.slice A2_0 l2_0.length c2_0, .slice A2_1 l2_1.length c2_1] 39 (0, 0)) (by (with_reducible repeat (first | refine blk_drewN ?_ _ | refine blk_drew ?_ | refine blk_alloc ?_ _)); exact BK318.out) k_ hn_))⟩)) (below_size (by repeat (first | (with_reducible first | exact HB.out | apply below_alloc | apply pw_below_drewN | apply below_drew1 | refine below_set ?_ GE316.out | refine below_set ?_ GE317.out | refine below_set ?_ GE318.out) | exact HB.out))))
                  have n6_ := Aside0.mk (blk_below (g := gb316) (o := .cells #[.slice Ao18 t320.length co18] 25 (0, 0)) (by (with_reducible repeat (first | refine blk_drewN ?_ _ | refine blk_drew ?_ | refine blk_alloc ?_ _)); exact BK316.out) hb)
                  have n7_ := Aside0.mk (blk_below (g := gb317) (o := .cells #[.slice Ao24 t323.length co24] 25 (0, 0)) (by (with_reducible repeat (first | refine blk_drewN ?_ _ | refine blk_drew ?_ | refine blk_alloc ?_ _)); exact BK317.out) hb)
                  have n8_ := Aside0.mk (blk_below (g := gb318) (o := .cells #[.slice A2_0 l2_0.length c2_0, .slice A2_1 l2_1.length c2_1] 39 (0, 0)) (by (with_reducible repeat (first | refine blk_drewN ?_ _ | refine blk_drew ?_ | refine blk_alloc ?_ _)); exact BK318.out) hb)
                  have n9_ := Aside0.mk (below_step (by repeat (first | (with_reducible first | exact HB.out | apply below_alloc | apply pw_below_drewN | apply below_drew1 | refine below_set ?_ GE316.out | refine below_set ?_ GE317.out | refine below_set ?_ GE318.out) | exact HB.out)) hb)
                  clear HO_14
                  clear HO_16
                  clear HO_317000
                  clear HO_318000
                  clear HO356
                  clear BK316
                  clear BK317
                  clear BK318
                  clear HB
                  have HO_14 := n0_
                  have HO_16 := n1_
                  have HO_317000 := n2_
                  have HO_318000 := n3_
                  have HO356 := n4_
                  have HO359 := n5_
                  have BK316 := n6_
                  have BK317 := n7_
                  have BK318 := n8_
                  have HB := n9_
                  clear n0_ n1_ n2_ n3_ n4_ n5_ n6_ n7_ n8_ n9_
                  (try clear hb)
                  (try clear hb2)
                  (try clear hk)
                  (try clear hi)
                  (try clear ho0)
                  obtain ⟨Ao115, co115, eo115⟩ := Kd.N_slice HO356.out
                  (first | subst eo115 | (injection eo115 with f1_ f2_ f3_; have f4_ := f1_.symm; have f5_ := f3_.symm; clear f1_ f2_ f3_; subst f4_; subst f5_))
                  obtain ⟨Ao116, co116, eo116⟩ := Kd.N_slice HO359.out
                  (first | subst eo116 | (injection eo116 with f1_ f2_ f3_; have f4_ := f1_.symm; have f5_ := f3_.symm; clear f1_ f2_ f3_; subst f4_; subst f5_))
                  refine hK.out _ _ ⟨(blk_cell BK318.out 0).trans rfl, (blk_cell BK318.out 1).trans rfl⟩ (fun hHeld => ?_)
                  clear hK K
                  refine norm_ (a' := ?_) ?_ ?_
                  rotate_left
                  · show Act.put _ (some 87) _ = _
                    simp only [Act.put, List.setIfInBounds_toArray, List.set_cons_zero, List.set_cons_succ, i64_w, i32_w]
                    rfl
                  refine one_ (i := 6) (N := some 88) #[true, true, true, true, true, true, true, false] rfl rfl (one_of HT_.out (by kernel_rfl)) (by decide) (fun K hK => ?_)
                  refine goes_ Try.func19 (by kernel_rfl) rfl #[.slice Ao115 t354.length co115, .slice Ao116 t357.length co116] (by rfl) rfl rfl (by (try simp only [List.map_toArray, List.map_cons, List.map_nil]); first | done | rfl | (simp only [List.length_drop, List.length_take]; rfl)) ?_
                  with_reducible refine (registrarref07_SameDefsG.calls _ _ t354 _ _ t357 t360 _ ?side1 ?side2 ?side3 ?side4 A102.out).mono ?_
                  (case side1 => repeat (first | exact (Kd.N_reads' HO356.out).2.2 | (with_reducible refine Kd.C_alloc ?_ _) | (with_reducible refine Kd.C_drewN ?_ _) | (with_reducible refine Kd.C_drew ?_)))
                  (case side2 => exact (Kd.N_reads' HO356.out).2.1)
                  (case side3 => repeat (first | exact (Kd.N_reads' HO359.out).2.2 | (with_reducible refine Kd.C_alloc ?_ _) | (with_reducible refine Kd.C_drewN ?_ _) | (with_reducible refine Kd.C_drew ?_)))
                  (case side4 => exact (Kd.N_reads' HO359.out).2.1)
                  rintro e w117 ⟨rfl, hb⟩
                  refine ⟨_, rfl, ?_⟩
                  have n0_ := Aside0.mk (Kd.R_below (by (with_reducible repeat (first | apply Kd.R_alloc | apply Kd.R_drewN | apply Kd.R_drew)); exact HO_14.out) hb)
                  have n1_ := Aside0.mk (Kd.R_below (by (with_reducible repeat (first | apply Kd.R_alloc | apply Kd.R_drewN | apply Kd.R_drew)); exact HO_16.out) hb)
                  have n2_ := Aside0.mk (Kd.N_below (by (with_reducible repeat (first | apply Kd.N_alloc | apply Kd.N_drewN | apply Kd.N_drew)); exact HO_317000.out) hb)
                  have n3_ := Aside0.mk (Kd.N_below (by (with_reducible repeat (first | apply Kd.N_alloc | apply Kd.N_drewN | apply Kd.N_drew)); exact HO_318000.out) hb)
                  have n4_ := Aside0.mk (Kd.N_below (by (with_reducible repeat (first | apply Kd.N_alloc | apply Kd.N_drewN | apply Kd.N_drew)); exact HO356.out) hb)
                  have n5_ := Aside0.mk (Kd.N_below (by (with_reducible repeat (first | apply Kd.N_alloc | apply Kd.N_drewN | apply Kd.N_drew)); exact HO359.out) hb)
                  have n6_ := Aside0.mk (blk_below (g := gb316) (o := .cells #[.slice Ao18 t320.length co18] 25 (0, 0)) (by (with_reducible repeat (first | refine blk_drewN ?_ _ | refine blk_drew ?_ | refine blk_alloc ?_ _)); exact BK316.out) hb)
                  have n7_ := Aside0.mk (blk_below (g := gb317) (o := .cells #[.slice Ao24 t323.length co24] 25 (0, 0)) (by (with_reducible repeat (first | refine blk_drewN ?_ _ | refine blk_drew ?_ | refine blk_alloc ?_ _)); exact BK317.out) hb)
                  have n8_ := Aside0.mk (blk_below (g := gb318) (o := .cells #[.slice A2_0 l2_0.length c2_0, .slice A2_1 l2_1.length c2_1] 39 (0, 0)) (by (with_reducible repeat (first | refine blk_drewN ?_ _ | refine blk_drew ?_ | refine blk_alloc ?_ _)); exact BK318.out) hb)
                  have n9_ := Aside0.mk (below_step (by repeat (first | (with_reducible first | exact HB.out | apply below_alloc | apply pw_below_drewN | apply below_drew1 | refine below_set ?_ GE316.out | refine below_set ?_ GE317.out | refine below_set ?_ GE318.out) | exact HB.out)) hb)
                  clear HO_14
                  clear HO_16
                  clear HO_317000
                  clear HO_318000
                  clear HO356
                  clear HO359
                  clear BK316
                  clear BK317
                  clear BK318
                  clear HB
                  have HO_14 := n0_
                  have HO_16 := n1_
                  have HO_317000 := n2_
                  have HO_318000 := n3_
                  have HO356 := n4_
                  have HO359 := n5_
                  have BK316 := n6_
                  have BK317 := n7_
                  have BK318 := n8_
                  have HB := n9_
                  clear n0_ n1_ n2_ n3_ n4_ n5_ n6_ n7_ n8_ n9_
                  (try clear hb)
                  (try clear hb2)
                  (try clear hk)
                  (try clear hi)
                  refine hK.out _ _ ⟨(blk_cell BK318.out 0).trans rfl, (blk_cell BK318.out 1).trans rfl⟩ (fun hHeld => ?_)
                  clear hK K
                  refine norm_ (a' := ?_) ?_ ?_
                  rotate_left
                  · show Act.put _ (some 88) _ = _
                    simp only [Act.put, List.setIfInBounds_toArray, List.set_cons_zero, List.set_cons_succ, i64_w, i32_w]
                    rfl
                  refine pure_ (i := 7) (N := some 18) (v := ?_) (a' := ?_) #[true, true, true, true, true, true, true, true] rfl rfl (any_of HT_.out (by kernel_rfl)) (fun _ _ _ h => h) (Or.inl ⟨by rfl, ?_⟩) ?_ ?_
                  rotate_left
                  · intro w'
                    go_simp
                    with_reducible rfl
                  rotate_left
                  · simp only [Act.put, List.setIfInBounds_toArray, List.set_cons_zero, List.set_cons_succ, i64_w, i32_w]
                    rfl
                  refine done_ (done_of HT_.out (by kernel_rfl)) ?_
                  try go_wp2
                  go_ret
                  exact ⟨by first | rfl | (simp [errW_none, errW_some] <;> rfl) | (simp [*, errW_none, errW_some] <;> rfl), by repeat (first | (with_reducible first | exact HB.out | apply below_alloc | apply pw_below_drewN | apply below_drew1 | refine below_set ?_ GE316.out | refine below_set ?_ GE317.out | refine below_set ?_ GE318.out) | exact HB.out)⟩

end Go.Proofs.Ytdpigeineephlaa.Prt
namespace Go.Proofs.Ytdpigeineephlaa.Prt
open Go.RowKit Go.Proofs.YtdpigeineephlaaW.PrintWords Go.Proofs.YtdpigeineephlaaW.PrintLast Go.Proofs.YtdpigeineephlaaW.PrintMore Go.Proofs.Ytdpigeineephlaa.Num Go.Proofs.Ytdpigeineephlaa.Nam
set_option linter.unusedVariables false
set_option linter.unusedSimpArgs false

theorem eqQ_iff {a b : List S60} : eqL eqC a b = true ↔ a = b := eqL_iff eqC_iff a b
theorem eqDs_iff {a b : List S36} : eqL eqD a b = true ↔ a = b := eqL_iff eqD_iff a b
theorem qapart_j1 (k : Nat) (hk : 50 ≤ k) (l l' : List S36) (hf : FitsD l) (hf' : FitsD l') : registrarlaw07_QcodeApart.j1 k true l l' = some true := by
  obtain ⟨k, rfl⟩ : ∃ m, k = m + 2 := ⟨k - 2, by omega⟩
  have m3 : qcode_PutDefs.f (someD l) = some (putDs (someD l)) := if_pos (someD_fit hf)
  have m4 : qcode_PutDefs.f (someD l') = some (putDs (someD l')) := if_pos (someD_fit hf')
  have m5 : registrarref07_SameDefsG.f (someD l) (someD l') = some (eqL eqD (someD l) (someD l')) := if_pos ⟨by have := someD_len l; omega, someD_lenD l⟩
  rw [registrarlaw07_QcodeApart.j1, some07 (by omega), some07 (by omega)]
  simp only [Option.bind_some]
  rw [m3, m4]
  simp only [Option.bind_some]
  by_cases h0 : (putDs (someD l)).2 = 0
  · rw [if_pos h0, registrarlaw07_QcodeApart.j2]
    by_cases h1 : (putDs (someD l')).2 = 0
    · obtain ⟨a4, aok, ae⟩ := putDs_ok h0
      obtain ⟨b4, bok, be⟩ := putDs_ok h1
      rw [if_neg (by rw [h1]; decide), some07 (by omega), some07 (by omega)]
      simp only [Option.bind_some]
      rw [m5]
      simp only [Option.bind_some, if_true]
      rw [ae, be, str_beq (encDs_bytes _) (encDs_bytes _)]
      congr 1
      rw [beq_iff_eq, Bool.eq_iff_iff, decide_eq_true_iff, eqDs_iff]
      constructor
      · intro e
        exact (encDs_part (r := []) (r' := []) a4 b4 aok bok (by rw [e])).1
      · intro e; rw [e]
    · rw [if_pos (by simpa using h1)]
  · rw [if_neg h0, registrarlaw07_QcodeApart.j2, if_pos rfl]
theorem qcodeApart_true (p q : List S60) (l l' : List S36) (hp : FitsQ p) (hq : FitsQ q) (hf : FitsD l) (hf' : FitsD l') : registrarlaw07_QcodeApart.f 100 p q l l' = some true := by
  have m1 : registrarref06_SameG.f (fewQ p) (fewQ q) = some (eqL eqC (fewQ p) (fewQ q)) := if_pos ⟨by have := fewQ_len p; omega, fewQ_lenC p⟩
  unfold registrarlaw07_QcodeApart.f
  rw [shown07, few07 (by omega), few07 (by omega)]
  simp only [Option.bind_some]
  rw [qput_ok (by simp) (fewQ_fit hp), qput_ok (by simp) (fewQ_fit hq)]
  simp only [Option.bind_some, List.nil_append]
  by_cases h0 : mayQ (fewQ p) = 0
  · rw [if_pos h0]
    simp only [if_true]
    rw [registrarlaw07_QcodeApart.j0]
    by_cases h1 : mayQ (fewQ q) = 0
    · have okp := mayQ_zero.1 h0
      have okq := mayQ_zero.1 h1
      rw [if_pos h1, if_pos (by simp), m1]
      simp only [Option.bind_some]
      by_cases hl : (encQ (fewQ p)).length ≤ (encQ (fewQ q)).length
      · rw [if_pos (by omega), if_pos (by omega), if_pos (by omega), str_beq (isBytes_take (encQ_bytes _) _) (encQ_bytes _), Int.toNat_natCast]
        have e : decide ((encQ (fewQ q)).take (encQ (fewQ p)).length = encQ (fewQ p)) = eqL eqC (fewQ p) (fewQ q) := by
          rw [Bool.eq_iff_iff, decide_eq_true_iff, eqQ_iff]
          constructor
          · intro e
            have e2 : encQ (fewQ p) ++ (encQ (fewQ q)).drop (encQ (fewQ p)).length = encQ (fewQ q) ++ [] := by
              conv => lhs; lhs; rw [← e]
              rw [List.take_append_drop, List.append_nil]
            exact (encQ_part okp okq e2).1
          · intro e; rw [e, List.take_length]
        rw [e, bne_self_eq_false, if_neg (by decide)]
        exact qapart_j1 99 (by omega) l l' hf hf'
      · have e : eqL eqC (fewQ p) (fewQ q) = false := by
          cases e : eqL eqC (fewQ p) (fewQ q) with
          | false => rfl
          | true => rw [eqQ_iff.1 e] at hl; omega
        rw [if_neg (by omega), e, if_neg (by decide)]
        exact qapart_j1 99 (by omega) l l' hf hf'
    · rw [if_neg h1, if_neg (by simpa using h1)]
      exact qapart_j1 99 (by omega) l l' hf hf'
  · rw [if_neg h0]
    simp only [if_neg h0]
    rw [registrarlaw07_QcodeApart.j0, if_neg (by decide)]
    exact qapart_j1 99 (by omega) l l' hf hf'
end Go.Proofs.Ytdpigeineephlaa.Prt
namespace Go.Proofs.Ytdpigeineephlaa.Gen
open Go.RowKit Go.Proofs.YtdpigeineephlaaW.PrintWords Go.Proofs.YtdpigeineephlaaW.PrintLast Go.Proofs.YtdpigeineephlaaW.PrintMore
set_option linter.unusedVariables false
set_option linter.unusedSimpArgs false

theorem list_of {α : Type} {p : Nat → α → Prop} : ∀ n : Nat, (∀ i, i < n → ∃ x, p i x) → ∃ xs : List α, xs.length = n ∧ ∀ i x, xs[i]? = some x → p i x := by
  intro n
  induction n with
  | zero => exact fun _ => ⟨[], rfl, fun i x h => by simp at h⟩
  | succ n ih =>
    intro h
    obtain ⟨xs, h1, h2⟩ := ih (fun i hi => h i (by omega))
    obtain ⟨y, hy⟩ := h n (by omega)
    refine ⟨xs ++ [y], by simp [h1], fun i x hx => ?_⟩
    rcases Nat.lt_or_ge i xs.length with hi | hi
    · rw [List.getElem?_append_left hi] at hx; exact h2 i x hx
    · have hl := (List.getElem?_eq_some_iff.1 hx).1
      rw [List.length_append, List.length_singleton] at hl
      obtain rfl : i = xs.length := by omega
      rw [List.getElem?_append_right hi] at hx
      simp at hx
      subst hx
      rw [h1]; exact hy
/-- Whatever reads as data of type t stands as an x of kind k that is ok. -/
def Opens {α : Type} (P : Program) (t : TypeId) (k : Kd α) (ok : α → Prop) : Prop :=
  ∀ {H : Type} (enc : TypeId × Value → H) (w : World) (base : Nat) (spare : Nat → Bool) (held : Bool) (fuel : Nat) (cs : List Value) (y : DataW H × List MemPlace), DataW.trod enc P w base spare held fuel t cs = some y → ∃ x, k.K w x cs ∧ ok x
section
variable {P : Program} {t e : TypeId}
theorem opens_int {k : IntKind} (ht : P.underlying t = some (.int k)) : Opens P t (Kd.int k) (fun n => (Lit.int k n).wf = true) := by
  intro H enc w base spare held fuel cs y h
  obtain ⟨n, rfl, _, h2⟩ := DataW.trod_int ht h
  exact ⟨n, rfl, h2⟩
theorem opens_string (ht : P.underlying t = some .string) : Opens P t Kd.string (fun s => s.size ≤ maxLen) := by
  intro H enc w base spare held fuel cs y h
  obtain ⟨s, rfl, _, h2⟩ := DataW.trod_string ht h
  exact ⟨s, rfl, h2⟩
theorem opens_slice {α : Type} {k : Kd α} {ok : α → Prop} (ht : P.underlying t = some (.slice e)) (hc : P.cellsOf e = k.sz) (he : Opens P e k ok) : Opens P t (Kd.slice e k) (fun xs => ∀ x ∈ xs, ok x) := by
  intro H enc w base spare held fuel cs y h
  rcases DataW.trod_slice ht h with ⟨rfl, _⟩ | ⟨a, len, cap, elems, rest, n, _, rfl, _, hb, hl, hm, hlen, hel, _, _⟩
  · exact ⟨[], ⟨none, 0, rfl, Nat.le_refl _, Kd.C_nil _ _⟩, fun x hx => by simp at hx⟩
  · have key : ∀ i, i < len → ∃ x, (∃ c, c.length = k.sz ∧ k.K w x c ∧ ∀ j u, c[j]? = some u → w.cell? (a.add (i * k.sz + j)) = some u) ∧ ok x := by
      intro i hi
      have h1 := hel i hi
      have h2 : elems[i]? = some elems[i] := List.getElem?_eq_getElem (by omega)
      rw [h2] at h1
      obtain ⟨c, hcells, htrod⟩ := Option.bind_eq_some_iff.1 h1
      obtain ⟨x, hx, hok⟩ := he enc w base spare held n c _ htrod
      obtain ⟨_, hcl, hcc⟩ := World.cells?_some hcells
      refine ⟨x, ⟨c, by rw [hcl, hc], hx, fun j u hj => ?_⟩, hok⟩
      have hjl : j < P.cellsOf e := by rw [← hcl]; exact (List.getElem?_eq_some_iff.1 hj).1
      have h3 := hcc j hjl
      rw [hj, hc] at h3
      rw [← h3]
      congr 1
      exact (Go.Deep.add_add a (i * k.sz) j).symm
    obtain ⟨xs, hxl, hx⟩ := list_of len key
    refine ⟨xs, ⟨some a, cap, by rw [hxl], by rw [hxl]; exact hl, hxl ▸ rfl, by rw [hxl]; simp only [maxLen] at hm; omega, fun _ => ⟨a, rfl, fun j p hp => (hx j p hp).1⟩⟩, fun x hxm => ?_⟩
    obtain ⟨j, hj⟩ := List.mem_iff_getElem?.1 hxm
    exact (hx j x hj).2
end
end Go.Proofs.Ytdpigeineephlaa.Gen
namespace Go.Proofs.Ytdpigeineephlaa.Gen
open Go.RowKit Go.Proofs.YtdpigeineephlaaW.PrintWords Go.Proofs.YtdpigeineephlaaW.PrintLast Go.Proofs.YtdpigeineephlaaW.PrintMore Go.Proofs.Ytdpigeineephlaa.Prt
set_option linter.unusedVariables false
set_option linter.unusedSimpArgs false
theorem opens_str : Opens Try.prog 9 Kd.string (fun s => s.size ≤ maxLen) := opens_string Try.underlying9
theorem opens_i64 : Opens Try.prog 3 (Kd.int .i64) (fun n => (Lit.int .i64 n).wf = true) := opens_int Try.underlying3
theorem opens_strs : Opens Try.prog 58 (Kd.slice 9 Kd.string) (fun xs => ∀ x ∈ xs, x.size ≤ maxLen) := opens_slice Try.underlying58 (by kernel_rfl) opens_str
end Go.Proofs.Ytdpigeineephlaa.Gen
namespace Go.Proofs.Ytdpigeineephlaa.Gen
open Go.RowKit Go.Proofs.YtdpigeineephlaaW.PrintWords Go.Proofs.YtdpigeineephlaaW.PrintLast Go.Proofs.YtdpigeineephlaaW.PrintMore Go.Proofs.Ytdpigeineephlaa.Prt
set_option linter.unusedVariables false
set_option linter.unusedSimpArgs false
/-- Clauses that came in. -/
def OkInQ (l : List S60) : Prop := ∀ x ∈ l, (∀ s ∈ x.f0, s.size ≤ maxLen) ∧ (∀ s ∈ x.f1, s.size ≤ maxLen)
theorem opens_clause : Opens Try.prog 60 k60 (fun x => (∀ z ∈ x.f0, z.size ≤ maxLen) ∧ (∀ z ∈ x.f1, z.size ≤ maxLen)) := by
  intro H enc w base spare held fuel cs y h
  obtain ⟨xs, n, _, _, hl, hlen, hf⟩ := DataW.trod_struct Try.underlying60 h
  rw [show Try.prog.cellsOf 60 = 2 from by kernel_rfl] at hl
  have hlen' : xs.length = 2 := hlen
  have h0 := hf 0 _ rfl
  rw [List.getElem?_eq_getElem (l := xs) (i := 0) (by omega)] at h0
  replace h0 : DataW.trod enc Try.prog w base spare held n 58 ((cs.drop 0).take (Try.prog.cellsOf 58)) = some xs[0] := h0
  rw [show Try.prog.cellsOf 58 = 1 from by kernel_rfl] at h0
  obtain ⟨x0, K0, o0⟩ := opens_strs enc w base spare held n _ _ h0
  have h1 := hf 1 _ rfl
  rw [List.getElem?_eq_getElem (l := xs) (i := 1) (by omega)] at h1
  replace h1 : DataW.trod enc Try.prog w base spare held n 58 ((cs.drop 1).take (Try.prog.cellsOf 58)) = some xs[1] := h1
  rw [show Try.prog.cellsOf 58 = 1 from by kernel_rfl] at h1
  obtain ⟨x1, K1, o1⟩ := opens_strs enc w base spare held n _ _ h1
  have e : cs = (cs.drop 0).take 1 ++ ((cs.drop 1).take 1) := by
    have g0 : cs.drop 0 = (cs.drop 0).take 1 ++ cs.drop 1 := by rw [show cs.drop 1 = (cs.drop 0).drop 1 from by rw [List.drop_drop], List.take_append_drop]
    have g1 : cs.drop 1 = (cs.drop 1).take 1 ++ cs.drop 2 := by rw [show cs.drop 2 = (cs.drop 1).drop 1 from by rw [List.drop_drop], List.take_append_drop]
    have z : cs.drop 2 = [] := List.drop_eq_nil_of_le (by omega)
    rw [z, List.append_nil] at g1
    calc cs = cs.drop 0 := rfl
      _ = (cs.drop 0).take 1 ++ ((cs.drop 1).take 1) := by rw [← g1]; exact g0
  refine ⟨⟨x0, x1⟩, ?_, o0, o1⟩
  rw [e]
  exact ⟨_, _, rfl, K0, K1⟩
theorem opens_clauses : Opens Try.prog 23 (Kd.slice 60 k60) (fun l => OkInQ l) := opens_slice Try.underlying23 (by kernel_rfl) opens_clause
theorem opens_query : Opens Try.prog 25 k25 (fun x => OkInQ x.f0) := by
  intro H enc w base spare held fuel cs y h
  obtain ⟨xs, n, _, _, hl, hlen, hf⟩ := DataW.trod_struct Try.underlying25 h
  rw [show Try.prog.cellsOf 25 = 1 from by kernel_rfl] at hl
  have hlen' : xs.length = 1 := hlen
  have h0 := hf 0 _ rfl
  rw [List.getElem?_eq_getElem (l := xs) (i := 0) (by omega)] at h0
  replace h0 : DataW.trod enc Try.prog w base spare held n 23 ((cs.drop 0).take (Try.prog.cellsOf 23)) = some xs[0] := h0
  rw [show Try.prog.cellsOf 23 = 1 from by kernel_rfl] at h0
  obtain ⟨x0, K0, o0⟩ := opens_clauses enc w base spare held n _ _ h0
  have e : cs = (cs.drop 0).take 1 := by
    have g0 : cs.drop 0 = (cs.drop 0).take 1 ++ cs.drop 1 := by rw [show cs.drop 1 = (cs.drop 0).drop 1 from by rw [List.drop_drop], List.take_append_drop]
    have z : cs.drop 1 = [] := List.drop_eq_nil_of_le (by omega)
    rw [z, List.append_nil] at g0
    calc cs = cs.drop 0 := rfl
      _ = (cs.drop 0).take 1 := g0
  refine ⟨⟨x0⟩, ?_, o0⟩
  rw [e]
  exact K0
/-- Projections that came in. -/
def OkInD (l : List S36) : Prop := ∀ x ∈ l, (Lit.int .i64 x.f0).wf = true ∧ x.f1.size ≤ maxLen ∧ OkInQ x.f2.f0
theorem opens_def : Opens Try.prog 36 k36 (fun x => (Lit.int .i64 x.f0).wf = true ∧ x.f1.size ≤ maxLen ∧ OkInQ x.f2.f0) := by
  intro H enc w base spare held fuel cs y h
  obtain ⟨xs, n, _, _, hl, hlen, hf⟩ := DataW.trod_struct Try.underlying36 h
  rw [show Try.prog.cellsOf 36 = 3 from by kernel_rfl] at hl
  have hlen' : xs.length = 3 := hlen
  have h0 := hf 0 _ rfl
  rw [List.getElem?_eq_getElem (l := xs) (i := 0) (by omega)] at h0
  replace h0 : DataW.trod enc Try.prog w base spare held n 3 ((cs.drop 0).take (Try.prog.cellsOf 3)) = some xs[0] := h0
  rw [show Try.prog.cellsOf 3 = 1 from by kernel_rfl] at h0
  obtain ⟨x0, K0, o0⟩ := opens_i64 enc w base spare held n _ _ h0
  have h1 := hf 1 _ rfl
  rw [List.getElem?_eq_getElem (l := xs) (i := 1) (by omega)] at h1
  replace h1 : DataW.trod enc Try.prog w base spare held n 9 ((cs.drop 1).take (Try.prog.cellsOf 9)) = some xs[1] := h1
  rw [show Try.prog.cellsOf 9 = 1 from by kernel_rfl] at h1
  obtain ⟨x1, K1, o1⟩ := opens_str enc w base spare held n _ _ h1
  have h2 := hf 2 _ rfl
  rw [List.getElem?_eq_getElem (l := xs) (i := 2) (by omega)] at h2
  replace h2 : DataW.trod enc Try.prog w base spare held n 25 ((cs.drop 2).take (Try.prog.cellsOf 25)) = some xs[2] := h2
  rw [show Try.prog.cellsOf 25 = 1 from by kernel_rfl] at h2
  obtain ⟨x2, K2, o2⟩ := opens_query enc w base spare held n _ _ h2
  have e : cs = (cs.drop 0).take 1 ++ ((cs.drop 1).take 1 ++ ((cs.drop 2).take 1)) := by
    have g0 : cs.drop 0 = (cs.drop 0).take 1 ++ cs.drop 1 := by rw [show cs.drop 1 = (cs.drop 0).drop 1 from by rw [List.drop_drop], List.take_append_drop]
    have g1 : cs.drop 1 = (cs.drop 1).take 1 ++ cs.drop 2 := by rw [show cs.drop 2 = (cs.drop 1).drop 1 from by rw [List.drop_drop], List.take_append_drop]
    have g2 : cs.drop 2 = (cs.drop 2).take 1 ++ cs.drop 3 := by rw [show cs.drop 3 = (cs.drop 2).drop 1 from by rw [List.drop_drop], List.take_append_drop]
    have z : cs.drop 3 = [] := List.drop_eq_nil_of_le (by omega)
    rw [z, List.append_nil] at g2
    calc cs = cs.drop 0 := rfl
      _ = (cs.drop 0).take 1 ++ ((cs.drop 1).take 1 ++ ((cs.drop 2).take 1)) := by rw [← g2, ← g1]; exact g0
  refine ⟨⟨x0, x1, x2⟩, ?_, o0, o1, o2⟩
  rw [e]
  exact ⟨_, _, rfl, K0, ⟨_, _, rfl, K1, K2⟩⟩
theorem opens_defs : Opens Try.prog 26 (Kd.slice 36 k36) (fun l => OkInD l) := opens_slice Try.underlying26 (by kernel_rfl) opens_def
end Go.Proofs.Ytdpigeineephlaa.Gen
namespace Go.Proofs.Ytdpigeineephlaa.Prt
open Go.RowKit Go.Proofs.YtdpigeineephlaaW.PrintWords Go.Proofs.YtdpigeineephlaaW.PrintLast Go.Proofs.YtdpigeineephlaaW.PrintMore Go.Proofs.Ytdpigeineephlaa.Num Go.Proofs.Ytdpigeineephlaa.Nam Go.Proofs.Ytdpigeineephlaa.Gen
set_option linter.unusedVariables false
set_option linter.unusedSimpArgs false

theorem fitsQQcodeApart {l : List S60} (h : OkInQ l) : FitsQ l := fun x hx => h x hx
theorem fitsDQcodeApart {l : List S36} (h : OkInD l) : FitsD l := fun x hx => ⟨(h x hx).2.1, fitsQQcodeApart (h x hx).2.2⟩
end Go.Proofs.Ytdpigeineephlaa.Prt
namespace Go.Proofs.Ytdpigeineephlaa.Gen
open Go.RowKit Go.Proofs.YtdpigeineephlaaW.PrintWords Go.Proofs.YtdpigeineephlaaW.PrintLast Go.Proofs.YtdpigeineephlaaW.PrintMore Go.Proofs.Ytdpigeineephlaa.Prt
set_option linter.unusedVariables false
set_option linter.unusedSimpArgs false
/-- Two rows of projections. -/
structure S39 where
  f0 : List S36
  f1 : List S36
def k39 : Kd S39 := Kd.iso (Kd.pair (Kd.slice 36 k36) (Kd.slice 36 k36)) (fun x : S39 => (x.f0, x.f1))
theorem k39_open {w : World} {x : S39} {cs : List Value} (h : k39.K w x cs) : ∃ A0 c0 A1 c1, cs = [.slice A0 x.f0.length c0, .slice A1 x.f1.length c1] ∧ x.f0.length ≤ c0 ∧ k36.C w A0 x.f0.length x.f0 ∧ x.f1.length ≤ c1 ∧ k36.C w A1 x.f1.length x.f1 := by
  obtain ⟨_, _, rfl, ⟨A0, c0, rfl, l0, g0⟩, ⟨A1, c1, rfl, l1, g1⟩⟩ := h
  exact ⟨A0, c0, A1, c1, rfl, l0, g0, l1, g1⟩
theorem opens_two : Opens Try.prog 39 k39 (fun x => OkInD x.f0 ∧ OkInD x.f1) := by
  intro H enc w base spare held fuel cs y h
  obtain ⟨xs, n, _, _, hl, hlen, hf⟩ := DataW.trod_struct Try.underlying39 h
  rw [show Try.prog.cellsOf 39 = 2 from by kernel_rfl] at hl
  have hlen' : xs.length = 2 := hlen
  have h0 := hf 0 _ rfl
  rw [List.getElem?_eq_getElem (l := xs) (i := 0) (by omega)] at h0
  replace h0 : DataW.trod enc Try.prog w base spare held n 26 ((cs.drop 0).take (Try.prog.cellsOf 26)) = some xs[0] := h0
  rw [show Try.prog.cellsOf 26 = 1 from by kernel_rfl] at h0
  obtain ⟨x0, K0, o0⟩ := opens_defs enc w base spare held n _ _ h0
  have h1 := hf 1 _ rfl
  rw [List.getElem?_eq_getElem (l := xs) (i := 1) (by omega)] at h1
  replace h1 : DataW.trod enc Try.prog w base spare held n 26 ((cs.drop 1).take (Try.prog.cellsOf 26)) = some xs[1] := h1
  rw [show Try.prog.cellsOf 26 = 1 from by kernel_rfl] at h1
  obtain ⟨x1, K1, o1⟩ := opens_defs enc w base spare held n _ _ h1
  have e : cs = (cs.drop 0).take 1 ++ ((cs.drop 1).take 1) := by
    have g0 : cs.drop 0 = (cs.drop 0).take 1 ++ cs.drop 1 := by rw [show cs.drop 1 = (cs.drop 0).drop 1 from by rw [List.drop_drop], List.take_append_drop]
    have g1 : cs.drop 1 = (cs.drop 1).take 1 ++ cs.drop 2 := by rw [show cs.drop 2 = (cs.drop 1).drop 1 from by rw [List.drop_drop], List.take_append_drop]
    have z : cs.drop 2 = [] := List.drop_eq_nil_of_le (by omega)
    rw [z, List.append_nil] at g1
    calc cs = cs.drop 0 := rfl
      _ = (cs.drop 0).take 1 ++ ((cs.drop 1).take 1) := by rw [← g1]; exact g0
  refine ⟨⟨x0, x1⟩, ?_, o0, o1⟩
  rw [e]
  exact ⟨_, _, rfl, K0, K1⟩
end Go.Proofs.Ytdpigeineephlaa.Gen
namespace Go.Proofs.Ytdpigeineephlaa.Prt
open Go.RowKit Go.Proofs.YtdpigeineephlaaW.PrintWords Go.Proofs.YtdpigeineephlaaW.PrintLast Go.Proofs.YtdpigeineephlaaW.PrintMore Go.Proofs.Ytdpigeineephlaa.Num Go.Proofs.Ytdpigeineephlaa.Nam Go.Proofs.Ytdpigeineephlaa.Gen
set_option linter.unusedVariables false
set_option linter.unusedSimpArgs false
theorem qcodeApart_law (cs : Array Value) (x : S25) (ds : Array Value) (x' : S25) (es : Array Value) (z : S39) (w : World) (y : k25.K w x cs.toList) (hx : OkInQ x.f0) (y' : k25.K w x' ds.toList) (hx' : OkInQ x'.f0) (yz : k39.K w z es.toList) (hz : OkInD z.f0 ∧ OkInD z.f1) :
    Calls Try.prog 4 #[.agg cs, .agg ds, .agg es] w fun e w' => e = .returned (.bool true) ∧ Below w.heap.size w w' := by
  obtain ⟨A0, c0, e0, hc0, hC0⟩ := k25_open y
  obtain rfl : cs = #[.slice A0 x.f0.length c0] := by cases cs; simp_all
  obtain ⟨A1, c1, e1, hc1, hC1⟩ := k25_open y'
  obtain rfl : ds = #[.slice A1 x'.f0.length c1] := by cases ds; simp_all
  obtain ⟨A2, c2, A3, c3, e2, hc2, hC2, hc3, hC3⟩ := k39_open yz
  obtain rfl : es = #[.slice A2 z.f0.length c2, .slice A3 z.f1.length c3] := by cases es; simp_all
  exact registrarlaw07_QcodeApart.calls 100 A0 c0 x.f0 A1 c1 x'.f0 A2 c2 z.f0 A3 c3 z.f1 true w hC0 hc0 hC1 hc1 hC2 hc2 hC3 hc3 (qcodeApart_true x.f0 x'.f0 z.f0 z.f1 (fitsQQcodeApart hx) (fitsQQcodeApart hx') (fitsDQcodeApart hz.1) (fitsDQcodeApart hz.2))
end Go.Proofs.Ytdpigeineephlaa.Prt

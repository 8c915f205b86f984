/- Functions of the program, told as plain functions, with their walks: written by a program of this claim's out of the translation. Queries and projections: the document's example; what few and some answer; their bytes are told apart. Queries and projections taken, of plain functions. Queries and projections that the reference takes, of plain functions: as the program takes them. bytes.Equal. The reference's taken: its walk. qcode.taken, of texts: its walk. qcode.taken, of clauses: its walk. The reference's Take of a query: its walk. qcode.taken, of projections: its walk. The reference's TakeDefs: its walk. The closures of qcode.Take. qcode.Take: its walk. qcode.TakeDefs: its walk. Arguments of any shape, opened: what reads as data lies in memory as a list, a struct, a text .. Arguments that are texts and numbers, opened. Arguments that are queries and projections, opened. -/
import Derived.Shelf.Abstract
import Derived.Laws.EntriesVeiled
import Derived.ChangeArms
import Derived.OpenShut
import Derived.DataReads
import Derived.Deep.Slices
import Derived.Test.YtdpigeineephlaaYQcodeTakes1
import Derived.Test.YtdpigeineephlaaYQcodeTakes2
import Derived.Test.YtdpigeineephlaaYQcodeTakes3
import Derived.Test.YtdpigeineephlaaYQcodeTakes4
import Derived.Test.YtdpigeineephlaaYQcodeTakes5
namespace Go.Proofs.Ytdpigeineephlaa.Prt
open Go.RowKit Go.Proofs.YtdpigeineephlaaW.PrintWords Go.Proofs.YtdpigeineephlaaW.PrintLast Go.Proofs.YtdpigeineephlaaW.PrintMore
attribute [local go_sem] max2_int min2_int max_two min_two max_three min_three max_four min_four   -- for this text's walks alone
set_option linter.unusedVariables false
set_option linter.unusedSimpArgs false

def qcode_Put.f (l0 : List Int) (l1_0 : List (S60)) : Option (List Int × Int) := (query_May.f l1_0).bind fun t123 => (if t123 = 0 then ((qcode_put.f l0 l1_0).bind fun t124 => (some (t124, 0))) else (some (([] : List Int), t123)))
set_option maxHeartbeats 8000000 in
set_option maxRecDepth 100000 in
theorem qcode_Put.calls (A0 : Option Addr) (c0 : Nat) (l0 : List Int) (A1_0 : Option Addr) (c1_0 : Nat) (l1_0 : List (S60)) (r1 : List Int) (r2 : Int) (w : World) (hr0 : Kd.C (Kd.int .u8) w A0 l0.length l0) (hc0 : l0.length ≤ c0) (hr1_0 : Kd.C k60 w A1_0 l1_0.length l1_0) (hc1_0 : l1_0.length ≤ c1_0) (h : qcode_Put.f l0 l1_0 = some (r1, r2)) :
    Calls Try.prog 10 #[.slice A0 l0.length c0, .agg #[.slice A1_0 l1_0.length c1_0]] w fun e w' => ∃ v0_ : Value, e = .returned (.tuple #[v0_, .int .i64 r2]) ∧ Kd.R (Kd.int .u8) 5 w' w.heap.size (fun _ => True) v0_ r1 ∧ Below w.heap.size w w' := by
  have hu25 := Try.underlying25
  have HR0 := Aside0.mk hr0
  have HC0 := Aside0.mk hc0
  clear hr0 hc0
  have HR1_0 := Aside0.mk hr1_0
  have HC1_0 := Aside0.mk hc1_0
  clear hr1_0 hc1_0
  have HB := Aside0.mk (Below.refl w.heap.size w)
  have H : ((query_May.f l1_0).bind fun t123 => (if t123 = 0 then ((qcode_put.f l0 l1_0).bind fun t124 => (some (t124, 0))) else (some (([] : List Int), t123)))) = some (r1, r2) := h
  clear h
  replace H := Option.bind_eq_some_iff.mp H
  obtain ⟨t123, A30, H⟩ := H
  replace H : (if t123 = 0 then ((qcode_put.f l0 l1_0).bind fun t124 => (some (t124, 0))) else (some (([] : List Int), t123))) = some (r1, r2) := H
  have A3 := Aside0.mk A30
  clear A30
  by_cases c4 : t123 = 0
  · rw [if_pos c4] at H
    have c4b0 : (t123 == 0) = true := beq_iff_eq.mpr c4
    have c4b1 : (t123 != 0) = false := bne_eq_false_iff_eq.mpr c4
    clear c4
    replace H := Option.bind_eq_some_iff.mp H
    obtain ⟨t124, A50, H⟩ := H
    replace H : (some (t124, 0)) = some (r1, r2) := H
    have A5 := Aside0.mk A50
    clear A50
    simp only [Option.some.injEq, Prod.mk.injEq] at H
    obtain ⟨rfl, rfl⟩ := H
    go_enter Try.func10, Try.ntmps10
    go_wp2_with (first | ((with_reducible refine gate_dst (N := 3) rfl ?_); refine box_event ?hg (N := 3) ?hd (cs := #[.slice A1_0 l1_0.length c1_0]) (t := 25) ?hr ?_; (case hd => rfl); (case hg => rfl); (case hr => first | (go_simp; done) | (go_simp; rfl)); intro gb122 hg w6 hbox hb; have n0_ := Aside0.mk (below_step (by repeat (first | (with_reducible first | exact HB.out | apply below_alloc | apply pw_below_drewN | apply below_drew1) | exact HB.out)) hb); have n1_ := Aside0.mk (hbox); have n2_ := Aside0.mk ((by rw [hg]; exact (below_size (by repeat (first | (with_reducible first | exact HB.out | apply below_alloc | apply pw_below_drewN | apply below_drew1) | exact HB.out))) : w.heap.size ≤ gb122)); have n3_ := Aside0.mk ((by rw [hg]; exact (below_size (by repeat (first | (with_reducible first | exact HB.out | apply below_alloc | apply pw_below_drewN | apply below_drew1) | exact HB.out))) : w.heap.size ≤ gb122)); clear HB; have HB := n0_; have BK122 := n1_; have GW122 := n2_; have GE122 := n3_; clear n0_ n1_ n2_ n3_; clear hb hbox hg; have hcz7_0 : w6.cell? ⟨gb122, 0, none⟩ = some (.slice A1_0 l1_0.length c1_0) := (blk_cell BK122.out 0).trans rfl; have hfz7_0 := blk_frozen BK122.out 0) | ((with_reducible refine gate_callee (f := 26) rfl ?_); refine goesL_ (some 8) rfl rfl Try.func26 (by kernel_rfl) rfl #[.agg #[.slice A1_0 l1_0.length c1_0]] rfl (by (try simp only [List.map_toArray, List.map_cons, List.map_nil]); first | done | rfl | (simp only [List.length_drop, List.length_take]; rfl)) ?_; (with_reducible refine (query_May.calls _ _ l1_0 t123 _ ?side1 ?side2 A3.out).mono ?_); (case side1 => repeat (first | exact (Kd.C_below HR1_0.out HB.out) | (with_reducible refine Kd.C_alloc ?_ _) | (with_reducible refine Kd.C_drewN ?_ _) | (with_reducible refine Kd.C_drew ?_))); (case side2 => exact HC1_0.out); rintro e w8 ⟨rfl, hb⟩; refine ⟨_, rfl, ?_⟩; have n0_ := Aside0.mk (blk_below (g := gb122) (o := .cells #[.slice A1_0 l1_0.length c1_0] 25 (0, 0)) (by (with_reducible repeat (first | refine blk_drewN ?_ _ | refine blk_drew ?_ | refine blk_alloc ?_ _)); exact BK122.out) hb); have n1_ := Aside0.mk (below_step (by repeat (first | (with_reducible first | exact HB.out | apply below_alloc | apply pw_below_drewN | apply below_drew1 | refine below_set ?_ GE122.out) | exact HB.out)) hb); clear BK122; clear HB; have BK122 := n0_; have HB := n1_; clear n0_ n1_; (try clear hb); (try clear hb2); (try clear hk); (try clear hi); have hcz9_0 : w8.cell? ⟨gb122, 0, none⟩ = some (.slice A1_0 l1_0.length c1_0) := (blk_cell BK122.out 0).trans rfl; have hfz9_0 := blk_frozen BK122.out 0) | ((with_reducible refine gate_callee (f := 27) rfl ?_); refine goesL_ (some 14) rfl rfl Try.func27 (by kernel_rfl) rfl #[.slice A0 l0.length c0, .agg #[.slice A1_0 l1_0.length c1_0]] rfl (by (try simp only [List.map_toArray, List.map_cons, List.map_nil]); first | done | rfl | (simp only [List.length_drop, List.length_take]; rfl)) ?_; (with_reducible refine (qcode_put.calls _ _ l0 _ _ l1_0 t124 _ ?side1 ?side2 ?side3 ?side4 A5.out).mono ?_); (case side1 => repeat (first | exact (Kd.C_below HR0.out HB.out) | (with_reducible refine Kd.C_alloc ?_ _) | (with_reducible refine Kd.C_drewN ?_ _) | (with_reducible refine Kd.C_drew ?_))); (case side2 => exact HC0.out); (case side3 => repeat (first | exact (Kd.C_below HR1_0.out HB.out) | (with_reducible refine Kd.C_alloc ?_ _) | (with_reducible refine Kd.C_drewN ?_ _) | (with_reducible refine Kd.C_drew ?_))); (case side4 => exact HC1_0.out); rintro e w10 ⟨v125, rfl, ho0, hb⟩; refine ⟨_, rfl, ?_⟩; have n0_ := Aside0.mk (Kd.R_lower ho0 (below_size (by repeat (first | (with_reducible first | exact HB.out | apply below_alloc | apply pw_below_drewN | apply below_drew1 | refine below_set ?_ GE122.out) | exact HB.out)))); have n1_ := Aside0.mk (blk_below (g := gb122) (o := .cells #[.slice A1_0 l1_0.length c1_0] 25 (0, 0)) (by (with_reducible repeat (first | refine blk_drewN ?_ _ | refine blk_drew ?_ | refine blk_alloc ?_ _)); exact BK122.out) hb); have n2_ := Aside0.mk (below_step (by repeat (first | (with_reducible first | exact HB.out | apply below_alloc | apply pw_below_drewN | apply below_drew1 | refine below_set ?_ GE122.out) | exact HB.out)) hb); clear BK122; clear HB; have HO126 := n0_; have BK122 := n1_; have HB := n2_; clear n0_ n1_ n2_; (try clear hb); (try clear hb2); (try clear hk); (try clear hi); (try clear ho0)))
    go_ret2
    exact ⟨_, by first | rfl | (simp [errW_none, errW_some] <;> rfl) | (simp [*, errW_none, errW_some] <;> rfl), by (with_reducible repeat (first | apply Kd.R_alloc | apply Kd.R_drewN | apply Kd.R_drew)); exact HO126.out, by repeat (first | (with_reducible first | exact HB.out | apply below_alloc | apply pw_below_drewN | apply below_drew1 | refine below_set ?_ GE122.out) | exact HB.out)⟩
  · rw [if_neg c4] at H
    have c4b0 : (t123 == 0) = false := beq_eq_false_iff_ne.mpr c4
    have c4b1 : (t123 != 0) = true := bne_iff_ne.mpr c4
    simp only [Option.some.injEq, Prod.mk.injEq] at H
    obtain ⟨rfl, rfl⟩ := H
    go_enter Try.func10, Try.ntmps10
    go_wp2_with (first | ((with_reducible refine gate_dst (N := 3) rfl ?_); refine box_event ?hg (N := 3) ?hd (cs := #[.slice A1_0 l1_0.length c1_0]) (t := 25) ?hr ?_; (case hd => rfl); (case hg => rfl); (case hr => first | (go_simp; done) | (go_simp; rfl)); intro gb122 hg w11 hbox hb; have n0_ := Aside0.mk (below_step (by repeat (first | (with_reducible first | exact HB.out | apply below_alloc | apply pw_below_drewN | apply below_drew1) | exact HB.out)) hb); have n1_ := Aside0.mk (hbox); have n2_ := Aside0.mk ((by rw [hg]; exact (below_size (by repeat (first | (with_reducible first | exact HB.out | apply below_alloc | apply pw_below_drewN | apply below_drew1) | exact HB.out))) : w.heap.size ≤ gb122)); have n3_ := Aside0.mk ((by rw [hg]; exact (below_size (by repeat (first | (with_reducible first | exact HB.out | apply below_alloc | apply pw_below_drewN | apply below_drew1) | exact HB.out))) : w.heap.size ≤ gb122)); clear HB; have HB := n0_; have BK122 := n1_; have GW122 := n2_; have GE122 := n3_; clear n0_ n1_ n2_ n3_; clear hb hbox hg; have hcz12_0 : w11.cell? ⟨gb122, 0, none⟩ = some (.slice A1_0 l1_0.length c1_0) := (blk_cell BK122.out 0).trans rfl; have hfz12_0 := blk_frozen BK122.out 0) | ((with_reducible refine gate_callee (f := 26) rfl ?_); refine goesL_ (some 8) rfl rfl Try.func26 (by kernel_rfl) rfl #[.agg #[.slice A1_0 l1_0.length c1_0]] rfl (by (try simp only [List.map_toArray, List.map_cons, List.map_nil]); first | done | rfl | (simp only [List.length_drop, List.length_take]; rfl)) ?_; (with_reducible refine (query_May.calls _ _ l1_0 t123 _ ?side1 ?side2 A3.out).mono ?_); (case side1 => repeat (first | exact (Kd.C_below HR1_0.out HB.out) | (with_reducible refine Kd.C_alloc ?_ _) | (with_reducible refine Kd.C_drewN ?_ _) | (with_reducible refine Kd.C_drew ?_))); (case side2 => exact HC1_0.out); rintro e w13 ⟨rfl, hb⟩; refine ⟨_, rfl, ?_⟩; have n0_ := Aside0.mk (blk_below (g := gb122) (o := .cells #[.slice A1_0 l1_0.length c1_0] 25 (0, 0)) (by (with_reducible repeat (first | refine blk_drewN ?_ _ | refine blk_drew ?_ | refine blk_alloc ?_ _)); exact BK122.out) hb); have n1_ := Aside0.mk (below_step (by repeat (first | (with_reducible first | exact HB.out | apply below_alloc | apply pw_below_drewN | apply below_drew1 | refine below_set ?_ GE122.out) | exact HB.out)) hb); clear BK122; clear HB; have BK122 := n0_; have HB := n1_; clear n0_ n1_; (try clear hb); (try clear hb2); (try clear hk); (try clear hi)))
    go_ret2
    exact ⟨_, by first | rfl | (simp [errW_none, errW_some] <;> rfl) | (simp [*, errW_none, errW_some] <;> rfl), by first | exact Kd.R_nil _ _ _ _ _ | exact Kd.N_nil _ _ _ _ _ | exact Kd.V_nil _ _ _ _ _ | exact Kd.Q_nil _ _ _ _ _ | exact Kd.S_nil _ _ _ _ _, by repeat (first | (with_reducible first | exact HB.out | apply below_alloc | apply pw_below_drewN | apply below_drew1 | refine below_set ?_ GE122.out) | exact HB.out)⟩

end Go.Proofs.Ytdpigeineephlaa.Prt
namespace Go.Proofs.Ytdpigeineephlaa.Prt
open Go.RowKit Go.Proofs.YtdpigeineephlaaW.PrintWords Go.Proofs.YtdpigeineephlaaW.PrintLast Go.Proofs.YtdpigeineephlaaW.PrintMore
attribute [local go_sem] max2_int min2_int max_two min_two max_three min_three max_four min_four   -- for this text's walks alone
set_option linter.unusedVariables false
set_option linter.unusedSimpArgs false

def registrarlaw07_shown.f  : Option (Bool) := (qcode_Put.f ([] : List Int) (([(⟨([] : List ByteArray), ([] : List ByteArray)⟩ : S60)] : List (S60)))).bind fun bt130 => (if (strOfNums bt130.1).toList = ([2, 0, 0] : List UInt8) then (some (bt130.2 == 0)) else (some false))
set_option maxHeartbeats 8000000 in
set_option maxRecDepth 100000 in
theorem registrarlaw07_shown.calls  (r : Bool) (w : World) (h : registrarlaw07_shown.f  = some r) :
    Calls Try.prog 9 #[] w fun e w' => e = .returned (.bool r) ∧ Below w.heap.size w w' := by
  have hu60 := Try.underlying60
  have hu25 := Try.underlying25
  have HB := Aside0.mk (Below.refl w.heap.size w)
  have H : ((qcode_Put.f ([] : List Int) (([(⟨([] : List ByteArray), ([] : List ByteArray)⟩ : S60)] : List (S60)))).bind fun bt130 => (if (strOfNums bt130.1).toList = ([2, 0, 0] : List UInt8) then (some (bt130.2 == 0)) else (some false))) = some r := h
  clear h
  obtain ⟨y127, hy127⟩ : ∃ y_ : List (S60), y_ = (([(⟨([] : List ByteArray), ([] : List ByteArray)⟩ : S60)] : List (S60))) := ⟨_, rfl⟩
  replace H : ((qcode_Put.f ([] : List Int) y127).bind fun bt130 => (if (strOfNums bt130.1).toList = ([2, 0, 0] : List UInt8) then (some (bt130.2 == 0)) else (some false))) = some r := by first | (rw [hy127]; with_reducible exact H) | (have H2_ := (Option.bind_some _ _).symm.trans H; rw [hy127]; with_reducible exact H2_) | (have H2_ := (Option.bind_some _ _).symm.trans H; with_reducible exact H2_) | with_reducible exact H | (rw [hy127]; exact H) | exact H
  have Ny127 := Aside0.mk hy127
  clear hy127
  replace H := Option.bind_eq_some_iff.mp H
  obtain ⟨⟨t130, t133⟩, A10, H⟩ := H
  replace H : (if (strOfNums t130).toList = ([2, 0, 0] : List UInt8) then (some (t133 == 0)) else (some false)) = some r := H
  have A1 := Aside0.mk A10
  clear A10
  by_cases c2 : (strOfNums t130).toList = ([2, 0, 0] : List UInt8)
  · rw [if_pos c2] at H
    have c2b0 : ((strOfNums t130).toList == ([2, 0, 0] : List UInt8)) = true := beq_iff_eq.mpr c2
    have c2b1 : ((strOfNums t130).toList != ([2, 0, 0] : List UInt8)) = false := bne_eq_false_iff_eq.mpr c2
    clear c2
    obtain rfl := Option.some.inj H
    go_enter Try.func9, Try.ntmps9
    go_wp2_with (first | ((with_reducible refine gate_dst (N := 5) rfl ?_); refine Kd.S_lit k60 _ 60 ?hg (N := 5) ?hd (xs := ([(⟨([] : List ByteArray), ([] : List ByteArray)⟩ : S60)] : List (S60))) (inner := [.slice none 0 0, .slice none 0 0]) (ok := fun _ => True) (okp := fun _ => True) ?hr ?hp (fun _ hk => hk) trivial (Below.refl _ _) (Nat.le_refl _) (by simp) ?_; (case hd => rfl); (case hg => rfl); (case hr => first | (go_simp; done) | (go_simp; rfl)); (case hp => exact (Reps.c2 (show Kd.M k60 _ _ _ (⟨([] : List ByteArray), ([] : List ByteArray)⟩ : S60) [.slice none 0 0, .slice none 0 0] from (k60_mkM _ _ _ (⟨([] : List ByteArray), ([] : List ByteArray)⟩ : S60) (Kd.R_nil _ _ _ _ _) (Kd.R_nil _ _ _ _ _))) (Reps.none _ _))); intro v128 w3 ho4 hb hg_ hnew_; clear hg_ hnew_; (first | rw [← Ny127.out] at ho4 | (simp only [Int.reduceToNat] at ho4; rw [← Ny127.out] at ho4)); have n0_ := Aside0.mk (Kd.S_lower ho4 (below_size (by repeat (first | (with_reducible first | exact HB.out | apply below_alloc | apply pw_below_drewN | apply below_drew1) | exact HB.out)))); have n1_ := Aside0.mk (below_step (by repeat (first | (with_reducible first | exact HB.out | apply below_alloc | apply pw_below_drewN | apply below_drew1) | exact HB.out)) hb); clear HB; have HO129 := n0_; have HB := n1_; clear n0_ n1_; clear hb ho4; obtain ⟨Ao5, co5, eo5⟩ := Kd.S_slice HO129.out; subst eo5) | ((with_reducible refine gate_callee (f := 10) rfl ?_); refine goesL_ (some 7) rfl rfl Try.func10 (by kernel_rfl) rfl #[.slice none 0 0, .agg #[.slice Ao5 y127.length co5]] rfl (by (try simp only [List.map_toArray, List.map_cons, List.map_nil]); first | done | rfl | (simp only [List.length_drop, List.length_take]; rfl)) ?_; (refine (qcode_Put.calls _ _ ([] : List Int) _ _ y127 t130 t133 _ ?side1 ?side2 ?side3 ?side4 A1.out).mono ?_); (case side1 => exact Kd.C_nil _ _); (case side2 => exact Nat.le_refl _); (case side3 => repeat (first | exact (Kd.S_reads' HO129.out).2.2 | (with_reducible refine Kd.C_alloc ?_ _) | (with_reducible refine Kd.C_drewN ?_ _) | (with_reducible refine Kd.C_drew ?_))); (case side4 => exact (Kd.S_reads' HO129.out).2.1); rintro e w6 ⟨v131, rfl, ho0, hb⟩; refine ⟨_, rfl, ?_⟩; have n0_ := Aside0.mk (Kd.S_below (by (with_reducible repeat (first | apply Kd.S_alloc | apply Kd.S_drewN | apply Kd.S_drew)); exact HO129.out) hb); have n1_ := Aside0.mk (Kd.R_lower ho0 (below_size (by repeat (first | (with_reducible first | exact HB.out | apply below_alloc | apply pw_below_drewN | apply below_drew1) | exact HB.out)))); have n2_ := Aside0.mk (below_step (by repeat (first | (with_reducible first | exact HB.out | apply below_alloc | apply pw_below_drewN | apply below_drew1) | exact HB.out)) hb); clear HO129; clear HB; have HO129 := n0_; have HO132 := n1_; have HB := n2_; clear n0_ n1_ n2_; (try clear hb); (try clear hb2); (try clear hk); (try clear hi); (try clear ho0); have hcv7 := own_string (P := Try.prog) Try.underlying22 Try.underlying5 Try.underlying9 (Kd.own_of_R HO132.out)))
    go_ret
    exact ⟨by first | rfl | (simp [errW_none, errW_some] <;> rfl) | (simp [*, errW_none, errW_some] <;> rfl), by repeat (first | (with_reducible first | exact HB.out | apply below_alloc | apply pw_below_drewN | apply below_drew1) | exact HB.out)⟩
  · rw [if_neg c2] at H
    have c2b0 : ((strOfNums t130).toList == ([2, 0, 0] : List UInt8)) = false := beq_eq_false_iff_ne.mpr c2
    have c2b1 : ((strOfNums t130).toList != ([2, 0, 0] : List UInt8)) = true := bne_iff_ne.mpr c2
    obtain rfl := Option.some.inj H
    go_enter Try.func9, Try.ntmps9
    go_wp2_with (first | ((with_reducible refine gate_dst (N := 5) rfl ?_); refine Kd.S_lit k60 _ 60 ?hg (N := 5) ?hd (xs := ([(⟨([] : List ByteArray), ([] : List ByteArray)⟩ : S60)] : List (S60))) (inner := [.slice none 0 0, .slice none 0 0]) (ok := fun _ => True) (okp := fun _ => True) ?hr ?hp (fun _ hk => hk) trivial (Below.refl _ _) (Nat.le_refl _) (by simp) ?_; (case hd => rfl); (case hg => rfl); (case hr => first | (go_simp; done) | (go_simp; rfl)); (case hp => exact (Reps.c2 (show Kd.M k60 _ _ _ (⟨([] : List ByteArray), ([] : List ByteArray)⟩ : S60) [.slice none 0 0, .slice none 0 0] from (k60_mkM _ _ _ (⟨([] : List ByteArray), ([] : List ByteArray)⟩ : S60) (Kd.R_nil _ _ _ _ _) (Kd.R_nil _ _ _ _ _))) (Reps.none _ _))); intro v128 w8 ho9 hb hg_ hnew_; clear hg_ hnew_; (first | rw [← Ny127.out] at ho9 | (simp only [Int.reduceToNat] at ho9; rw [← Ny127.out] at ho9)); have n0_ := Aside0.mk (Kd.S_lower ho9 (below_size (by repeat (first | (with_reducible first | exact HB.out | apply below_alloc | apply pw_below_drewN | apply below_drew1) | exact HB.out)))); have n1_ := Aside0.mk (below_step (by repeat (first | (with_reducible first | exact HB.out | apply below_alloc | apply pw_below_drewN | apply below_drew1) | exact HB.out)) hb); clear HB; have HO129 := n0_; have HB := n1_; clear n0_ n1_; clear hb ho9; obtain ⟨Ao10, co10, eo10⟩ := Kd.S_slice HO129.out; subst eo10) | ((with_reducible refine gate_callee (f := 10) rfl ?_); refine goesL_ (some 7) rfl rfl Try.func10 (by kernel_rfl) rfl #[.slice none 0 0, .agg #[.slice Ao10 y127.length co10]] rfl (by (try simp only [List.map_toArray, List.map_cons, List.map_nil]); first | done | rfl | (simp only [List.length_drop, List.length_take]; rfl)) ?_; (refine (qcode_Put.calls _ _ ([] : List Int) _ _ y127 t130 t133 _ ?side1 ?side2 ?side3 ?side4 A1.out).mono ?_); (case side1 => exact Kd.C_nil _ _); (case side2 => exact Nat.le_refl _); (case side3 => repeat (first | exact (Kd.S_reads' HO129.out).2.2 | (with_reducible refine Kd.C_alloc ?_ _) | (with_reducible refine Kd.C_drewN ?_ _) | (with_reducible refine Kd.C_drew ?_))); (case side4 => exact (Kd.S_reads' HO129.out).2.1); rintro e w11 ⟨v131, rfl, ho0, hb⟩; refine ⟨_, rfl, ?_⟩; have n0_ := Aside0.mk (Kd.S_below (by (with_reducible repeat (first | apply Kd.S_alloc | apply Kd.S_drewN | apply Kd.S_drew)); exact HO129.out) hb); have n1_ := Aside0.mk (Kd.R_lower ho0 (below_size (by repeat (first | (with_reducible first | exact HB.out | apply below_alloc | apply pw_below_drewN | apply below_drew1) | exact HB.out)))); have n2_ := Aside0.mk (below_step (by repeat (first | (with_reducible first | exact HB.out | apply below_alloc | apply pw_below_drewN | apply below_drew1) | exact HB.out)) hb); clear HO129; clear HB; have HO129 := n0_; have HO132 := n1_; have HB := n2_; clear n0_ n1_ n2_; (try clear hb); (try clear hb2); (try clear hk); (try clear hi); (try clear ho0); have hcv12 := own_string (P := Try.prog) Try.underlying22 Try.underlying5 Try.underlying9 (Kd.own_of_R HO132.out)))
    go_ret
    exact ⟨by first | rfl | (simp [errW_none, errW_some] <;> rfl) | (simp [*, errW_none, errW_some] <;> rfl), by repeat (first | (with_reducible first | exact HB.out | apply below_alloc | apply pw_below_drewN | apply below_drew1) | exact HB.out)⟩

end Go.Proofs.Ytdpigeineephlaa.Prt
namespace Go.Proofs.Ytdpigeineephlaa.Prt
open Go.RowKit Go.Proofs.YtdpigeineephlaaW.PrintWords Go.Proofs.YtdpigeineephlaaW.PrintLast Go.Proofs.YtdpigeineephlaaW.PrintMore
attribute [local go_sem] max2_int min2_int max_two min_two max_three min_three max_four min_four   -- for this text's walks alone
set_option linter.unusedVariables false
set_option linter.unusedSimpArgs false

end Go.Proofs.Ytdpigeineephlaa.Prt
namespace Go.Proofs.Ytdpigeineephlaa.Prt
open Go.RowKit Go.Proofs.YtdpigeineephlaaW.PrintWords Go.Proofs.YtdpigeineephlaaW.PrintLast Go.Proofs.YtdpigeineephlaaW.PrintMore
attribute [local go_sem] max2_int min2_int max_two min_two max_three min_three max_four min_four   -- for this text's walks alone
set_option linter.unusedVariables false
set_option linter.unusedSimpArgs false

end Go.Proofs.Ytdpigeineephlaa.Prt
namespace Go.Proofs.Ytdpigeineephlaa.Prt
open Go.RowKit Go.Proofs.YtdpigeineephlaaW.PrintWords Go.Proofs.YtdpigeineephlaaW.PrintLast Go.Proofs.YtdpigeineephlaaW.PrintMore Go.Proofs.Ytdpigeineephlaa.Num Go.Proofs.Ytdpigeineephlaa.Nam
set_option linter.unusedVariables false
set_option linter.unusedSimpArgs false

theorem qput_ok {b : List Int} {l : List S60} (hb : b.length ≤ 100000000000) (hf : l.all fitC = true) : qcode_Put.f b l = some (if mayQ l = 0 then (b ++ encQ l, 0) else ([], mayQ l)) := by
  have m1 : query_May.f l = some (mayQ l) := if_pos hf
  unfold qcode_Put.f
  rw [m1]
  simp only [Option.bind_some]
  by_cases h0 : mayQ l = 0
  · have hz := encQ_size (mayQ_zero.1 h0)
    have m2 : qcode_put.f b l = some (b ++ encQ l) := if_pos (by omega)
    rw [if_pos h0, if_pos h0, m2]; rfl
  · rw [if_neg h0, if_neg h0]
theorem okC_nil : OkC ⟨[], []⟩ := ⟨by simp, by simp, fun s hs => by simp at hs, fun s hs => by simp at hs, rfl, rfl⟩
theorem okQ_st : OkQ [⟨[], []⟩] := ⟨by decide, fun x hx => by rw [List.mem_singleton.1 hx]; exact okC_nil⟩
theorem encQ_st : encQ [⟨[], []⟩] = [2, 0, 0] := by
  show enc 1 ++ ((enc 0 ++ []) ++ (enc 0 ++ []) ++ []) = _
  rw [enc_0, enc_1]; rfl
theorem shown07 : registrarlaw07_shown.f = some true := by
  unfold registrarlaw07_shown.f
  rw [qput_ok (by decide) okQ_st.fit, if_pos (mayQ_zero.2 okQ_st), encQ_st]
  simp only [Option.bind_some, List.nil_append]
  rw [if_pos (by rw [strOfNums_toList]; rfl)]; rfl
theorem flat_bytes {α : Type} {f : α → List Int} (hf : ∀ x, isBytes (f x)) : ∀ l : List α, isBytes (l.flatMap f)
  | [] => by intro c hc; simp at hc
  | x :: r => by rw [List.flatMap_cons]; exact isBytes_append.2 ⟨hf x, flat_bytes hf r⟩
theorem encL_bytes (l : List ByteArray) : isBytes (encL l) := isBytes_append.2 ⟨enc_bytes _, encTs_bytes l⟩
theorem encC_bytes (x : S60) : isBytes (encC x) := isBytes_append.2 ⟨encL_bytes _, encL_bytes _⟩
theorem encQ_bytes (l : List S60) : isBytes (encQ l) := isBytes_append.2 ⟨enc_bytes _, flat_bytes encC_bytes l⟩
theorem encD_bytes (x : S36) : isBytes (encD x) := isBytes_append.2 ⟨enc_bytes _, isBytes_append.2 ⟨isBytes_append.2 ⟨enc_bytes _, bytesOf_isBytes _⟩, encQ_bytes _⟩⟩
theorem encDs_bytes (l : List S36) : isBytes (encDs l) := isBytes_append.2 ⟨enc_bytes _, flat_bytes encD_bytes l⟩
theorem putDs_ok {l : List S36} (h : (putDs l).2 = 0) : l.length ≤ 4 ∧ (∀ x ∈ l, OkD x) ∧ putDs l = (encDs l, 0) := by
  unfold putDs at h ⊢
  by_cases c1 : 4 < l.length
  · rw [if_pos c1] at h; cases h
  rw [if_neg c1] at h ⊢
  by_cases c2 : firstD l ≠ 0
  · rw [if_pos c2] at h; exact absurd h c2
  rw [if_neg c2]
  exact ⟨by omega, firstD_zero.1 (by simpa using c2), rfl⟩
end Go.Proofs.Ytdpigeineephlaa.Prt
namespace Go.Proofs.Ytdpigeineephlaa.Prt
open Go.RowKit Go.Proofs.YtdpigeineephlaaW.PrintWords Go.Proofs.YtdpigeineephlaaW.PrintLast Go.Proofs.YtdpigeineephlaaW.PrintMore Go.Proofs.Ytdpigeineephlaa.Num Go.Proofs.Ytdpigeineephlaa.Nam
set_option linter.unusedVariables false
set_option linter.unusedSimpArgs false

/-- A step: what it takes, whether there is one, the bytes left, whether the reader is bad. -/
abbrev Stp (α : Type) : Type := List Int → Bool → (α × Bool) × List Int × Bool
def takeN {α : Type} (step : Stp α) : Nat → List Int → Bool → List α → (List α × Bool) × List Int × Bool
  | 0, l, b, acc => ((acc, !b), l, b)
  | n + 1, l, b, acc => if (step l b).1.2 = false ∨ (step l b).2.2 = true then (([], false), (step l b).2) else takeN step n (step l b).2.1 (step l b).2.2 (acc ++ [(step l b).1.1])
/-- A list taken, of so many at most. -/
def takeL {α : Type} (step : Stp α) (most : Int) (l : List Int) (b : Bool) : (List α × Bool) × List Int × Bool :=
  if numOf l < 0 ∨ most < numOf l then (([], false), aft l, badOf l b) else takeN step (numOf l).toNat (aft l) (badOf l b) []
def stepT : Stp ByteArray := fun l b => ((textOf l, true), aftT l, badT l b)
def stepC : Stp S60 := fun l b =>
  if (takeL stepT 4 l b).1.2 = false then ((⟨(takeL stepT 4 l b).1.1, []⟩, false), (takeL stepT 4 l b).2)
  else ((⟨(takeL stepT 4 l b).1.1, (takeL stepT 4 (takeL stepT 4 l b).2.1 (takeL stepT 4 l b).2.2).1.1⟩, (takeL stepT 4 (takeL stepT 4 l b).2.1 (takeL stepT 4 l b).2.2).1.2), (takeL stepT 4 (takeL stepT 4 l b).2.1 (takeL stepT 4 l b).2.2).2)
/-- A query taken: its clauses, the error, the bytes left, whether the reader is bad. -/
def takeQ (l : List Int) (b : Bool) : List S60 × Int × List Int × Bool :=
  if (takeL stepC 4 l b).1.2 = false ∨ mayQ (takeL stepC 4 l b).1.1 ≠ 0 then ([], 2, (takeL stepC 4 l b).2) else ((takeL stepC 4 l b).1.1, 0, (takeL stepC 4 l b).2)
def stepD : Stp S36 := fun l b => ((⟨numOf l, textOf (aft l), ⟨(takeQ (aftT (aft l)) (badT (aft l) (badOf l b))).1⟩⟩, decide ((takeQ (aftT (aft l)) (badT (aft l) (badOf l b))).2.1 = 0)), (takeQ (aftT (aft l)) (badT (aft l) (badOf l b))).2.2)
/-- Projections taken, and the error. -/
def takeDs (l : List Int) : List S36 × Int :=
  if (takeL stepD 4 l false).1.2 = false ∨ (putDs (takeL stepD 4 l false).1.1).2 ≠ 0 ∨ (putDs (takeL stepD 4 l false).1.1).1 ≠ l then ([], 2) else ((takeL stepD 4 l false).1.1, 0)

section
variable {α : Type} {step : Stp α} {e : α → List Int}
/-- What a step takes stands there as bytes. -/
def Good (step : Stp α) (e : α → List Int) : Prop := ∀ l b, isBytes l → (step l b).1.2 = true → (step l b).2.2 = false → b = false ∧ isBytes (step l b).2.1 ∧ l = e (step l b).1.1 ++ (step l b).2.1
theorem takeN_good (hg : Good step e) : ∀ (n : Nat) (l : List Int) (b : Bool) (acc : List α), isBytes l → (takeN step n l b acc).1.2 = true → b = false ∧ (takeN step n l b acc).2.2 = false ∧ isBytes (takeN step n l b acc).2.1 ∧ ∃ m, (takeN step n l b acc).1.1 = acc ++ m ∧ m.length = n ∧ l = m.flatMap e ++ (takeN step n l b acc).2.1
  | 0, l, b, acc, hb, h => by
    have hb0 : b = false := by simpa [takeN] using h
    exact ⟨hb0, hb0, hb, [], by simp [takeN], rfl, rfl⟩
  | n + 1, l, b, acc, hb, h => by
    by_cases hc : (step l b).1.2 = false ∨ (step l b).2.2 = true
    · rw [takeN, if_pos hc] at h; cases h
    · have h1 : (step l b).1.2 = true := by cases hz : (step l b).1.2 with | true => rfl | false => exact absurd (.inl hz) hc
      have h2 : (step l b).2.2 = false := by cases hz : (step l b).2.2 with | false => rfl | true => exact absurd (.inr hz) hc
      obtain ⟨g1, g2, g3⟩ := hg l b hb h1 h2
      rw [takeN, if_neg hc] at h ⊢
      obtain ⟨k1, k2, k3, m, k4, k5, k6⟩ := takeN_good hg n _ _ _ g2 h
      refine ⟨g1, k2, k3, (step l b).1.1 :: m, by rw [k4, List.append_assoc]; rfl, by rw [List.length_cons, k5], ?_⟩
      rw [List.flatMap_cons, List.append_assoc, ← k6]; exact g3
theorem takeL_good (hg : Good step e) {most : Int} {l : List Int} {b : Bool} (hb : isBytes l) (h : (takeL step most l b).1.2 = true) :
    b = false ∧ (takeL step most l b).2.2 = false ∧ isBytes (takeL step most l b).2.1 ∧ ((takeL step most l b).1.1.length : Int) ≤ most ∧ l = (enc ((takeL step most l b).1.1.length : Int) ++ (takeL step most l b).1.1.flatMap e) ++ (takeL step most l b).2.1 := by
  by_cases hc : numOf l < 0 ∨ most < numOf l
  · rw [takeL, if_pos hc] at h; cases h
  · rw [takeL, if_neg hc] at h ⊢
    obtain ⟨k1, k2, k3, m, k4, k5, k6⟩ := takeN_good hg _ _ _ _ (aft_bytes hb) h
    obtain ⟨g1, g2, g3⟩ := numOf_good hb k1
    rw [List.nil_append] at k4
    rw [k4]
    have hl : (m.length : Int) = numOf l := by omega
    refine ⟨g1, k2, k3, by omega, ?_⟩
    rw [hl, List.append_assoc, ← k6]; exact g2
theorem takeN_enc {m : List α} (he : ∀ x ∈ m, ∀ r, step (e x ++ r) false = ((x, true), r, false)) (r : List Int) : ∀ acc, takeN step m.length (m.flatMap e ++ r) false acc = ((acc ++ m, true), r, false) := by
  induction m with
  | nil => intro acc; simp [takeN]
  | cons x t ih =>
    intro acc
    have h1 := he x (by simp) (t.flatMap e ++ r)
    rw [List.length_cons, List.flatMap_cons, List.append_assoc, takeN, h1, if_neg (by simp)]
    have h2 := ih (fun y hy => he y (by simp [hy])) (acc ++ [x])
    simp only
    rw [h2, List.append_assoc]; rfl
theorem takeL_enc {most : Int} {m : List α} (hm : (m.length : Int) ≤ most) (hs : m.length ≤ 1000000) (he : ∀ x ∈ m, ∀ r, step (e x ++ r) false = ((x, true), r, false)) (r : List Int) : takeL step most ((enc (m.length : Int) ++ m.flatMap e) ++ r) false = ((m, true), r, false) := by
  obtain ⟨a1, a2, a3⟩ := numOf_enc (x := (m.length : Int)) ⟨by omega, by omega⟩ (m.flatMap e ++ r) false
  rw [takeL, List.append_assoc, a1, a2, a3, if_neg (by omega), Int.toNat_natCast, takeN_enc he r []]
  rfl
/-- What a step leaves is not longer; what it takes is so. -/
def Left (step : Stp α) (N : Nat) (p : α → Prop) : Prop := ∀ l b, isBytes l → l.length ≤ N → isBytes (step l b).2.1 ∧ (step l b).2.1.length ≤ l.length ∧ p (step l b).1.1
theorem takeN_left {N : Nat} {p : α → Prop} (hg : Left step N p) : ∀ (n : Nat) (l : List Int) (b : Bool) (acc : List α), isBytes l → l.length ≤ N → (∀ x ∈ acc, p x) → isBytes (takeN step n l b acc).2.1 ∧ (takeN step n l b acc).2.1.length ≤ l.length ∧ (∀ x ∈ (takeN step n l b acc).1.1, p x) ∧ (takeN step n l b acc).1.1.length ≤ acc.length + n
  | 0, l, b, acc, hb, hl, ha => ⟨hb, Nat.le_refl _, ha, Nat.le_refl _⟩
  | n + 1, l, b, acc, hb, hl, ha => by
    obtain ⟨g1, g2, g3⟩ := hg l b hb hl
    by_cases hc : (step l b).1.2 = false ∨ (step l b).2.2 = true
    · rw [takeN, if_pos hc]; exact ⟨g1, g2, fun x hx => by simp at hx, by simp⟩
    · rw [takeN, if_neg hc]
      obtain ⟨k1, k2, k3, k4⟩ := takeN_left hg n _ (step l b).2.2 (acc ++ [(step l b).1.1]) g1 (Nat.le_trans g2 hl) (fun x hx => by
        rcases List.mem_append.1 hx with hx | hx
        · exact ha x hx
        · rw [List.mem_singleton.1 hx]; exact g3)
      exact ⟨k1, Nat.le_trans k2 g2, k3, by rw [List.length_append, List.length_singleton] at k4; omega⟩
theorem takeL_left {N : Nat} {p : α → Prop} (hg : Left step N p) (most : Int) (hm : 0 ≤ most) (l : List Int) (b : Bool) (hb : isBytes l) (hl : l.length ≤ N) : isBytes (takeL step most l b).2.1 ∧ (takeL step most l b).2.1.length ≤ l.length ∧ (∀ x ∈ (takeL step most l b).1.1, p x) ∧ ((takeL step most l b).1.1.length : Int) ≤ most := by
  have h1 := aft_bytes hb
  have h2 := aft_len l hb
  by_cases hc : numOf l < 0 ∨ most < numOf l
  · rw [takeL, if_pos hc]; exact ⟨h1, h2, fun x hx => by simp at hx, by simpa using hm⟩
  · rw [takeL, if_neg hc]
    obtain ⟨k1, k2, k3, k4⟩ := takeN_left hg (numOf l).toNat _ (badOf l b) [] h1 (Nat.le_trans h2 hl) (fun x hx => by simp at hx)
    exact ⟨k1, Nat.le_trans k2 h2, k3, by rw [List.length_nil] at k4; omega⟩
end
theorem stepT_good : Good stepT (fun s => encT (bytesOf s)) := fun l b hb h1 h2 => by
  obtain ⟨g1, g2⟩ := textOf_good hb h2
  exact ⟨g1, aftT_bytes hb, g2⟩
theorem stepT_left (N : Nat) : Left stepT N (fun s => s.size ≤ N) := fun l b hb hl => ⟨aftT_bytes hb, aftT_len l hb, Nat.le_trans (textOf_size l hb) hl⟩
theorem stepT_enc {s : ByteArray} (hs : s.size ≤ 9223372036854775807) (r : List Int) : stepT (encT (bytesOf s) ++ r) false = ((s, true), r, false) := by
  obtain ⟨a1, a2, a3⟩ := textOf_enc hs r false
  unfold stepT; rw [a1, a2, a3]
theorem stepC_good : Good stepC encC := fun l b hb h1 h2 => by
  unfold stepC at h1 h2 ⊢
  by_cases hc : (takeL stepT 4 l b).1.2 = false
  · rw [if_pos hc] at h1; cases h1
  · rw [if_neg hc] at h1 h2 ⊢
    simp only at h1 h2 ⊢
    have hc1 : (takeL stepT 4 l b).1.2 = true := by simpa using hc
    obtain ⟨k1, k2, k3, k4, k5⟩ := takeL_good stepT_good hb hc1
    obtain ⟨j1, j2, j3, j4, j5⟩ := takeL_good stepT_good k3 h1
    refine ⟨k1, j3, ?_⟩
    unfold encC encL encTs
    simp only
    rw [List.append_assoc, ← j5]; exact k5
theorem stepC_left (N : Nat) : Left stepC N (fun x => (∀ s ∈ x.f0, s.size ≤ N) ∧ (∀ s ∈ x.f1, s.size ≤ N)) := fun l b hb hl => by
  obtain ⟨k1, k2, k3, k4⟩ := takeL_left (stepT_left N) 4 (by decide) l b hb hl
  unfold stepC
  by_cases hc : (takeL stepT 4 l b).1.2 = false
  · rw [if_pos hc]; exact ⟨k1, k2, k3, fun s hs => by simp at hs⟩
  · rw [if_neg hc]
    obtain ⟨j1, j2, j3, j4⟩ := takeL_left (stepT_left N) 4 (by decide) _ (takeL stepT 4 l b).2.2 k1 (Nat.le_trans k2 hl)
    exact ⟨j1, Nat.le_trans j2 k2, k3, j3⟩
theorem stepC_enc {x : S60} (h : OkC x) (r : List Int) : stepC (encC x ++ r) false = ((x, true), r, false) := by
  have h0 := h.h0
  have h1 := h.h1
  have f := fitC_iff.1 h.fit
  have a := takeL_enc (step := stepT) (e := fun s => encT (bytesOf s)) (most := 4) (m := x.f0) (by omega) (by omega) (fun s hs r => stepT_enc (f.1 s hs) r) (encL x.f1 ++ r)
  have b := takeL_enc (step := stepT) (e := fun s => encT (bytesOf s)) (most := 4) (m := x.f1) (by omega) (by omega) (fun s hs r => stepT_enc (f.2 s hs) r) r
  have e : encC x ++ r = (enc (x.f0.length : Int) ++ x.f0.flatMap fun s => encT (bytesOf s)) ++ (encL x.f1 ++ r) := by unfold encC; rw [List.append_assoc]; rfl
  have e2 : encL x.f1 ++ r = (enc (x.f1.length : Int) ++ x.f1.flatMap fun s => encT (bytesOf s)) ++ r := rfl
  unfold stepC
  rw [e, a]
  simp only
  rw [if_neg (by simp), e2, b]
/-- A query that is taken stands there as bytes. -/
theorem takeQ_good {l : List Int} {b : Bool} (hb : isBytes l) {q : List S60} {l' : List Int} {b' : Bool} (h : takeQ l b = (q, 0, l', b')) : b = false ∧ b' = false ∧ isBytes l' ∧ OkQ q ∧ l = encQ q ++ l' := by
  unfold takeQ at h
  by_cases hc : (takeL stepC 4 l b).1.2 = false ∨ mayQ (takeL stepC 4 l b).1.1 ≠ 0
  · rw [if_pos hc] at h; simp at h
  · rw [if_neg hc] at h
    rw [not_or] at hc
    obtain ⟨k1, k2, k3, k4, k5⟩ := takeL_good stepC_good hb (by simpa using hc.1)
    simp only [Prod.mk.injEq] at h
    obtain ⟨rfl, -, h3⟩ := h
    have e1 := congrArg (fun z => z.1) h3
    have e2 := congrArg (fun z => z.2) h3
    simp only at e1 e2
    subst e1; subst e2
    exact ⟨k1, k2, k3, mayQ_zero.1 (by simpa using hc.2), k5⟩
theorem takeQ_enc {q : List S60} (h : OkQ q) (r : List Int) : takeQ (encQ q ++ r) false = (q, 0, r, false) := by
  have h4 := h.h4
  have a := takeL_enc (step := stepC) (e := encC) (most := 4) (m := q) (by omega) (by omega) (fun x hx r => stepC_enc (h.hc x hx) r) r
  unfold takeQ encQ
  rw [a]
  simp only
  rw [if_neg (by rw [mayQ_zero.2 h]; simp)]
theorem takeQ_left (N : Nat) {l : List Int} (b : Bool) (hb : isBytes l) (hl : l.length ≤ N) : isBytes (takeQ l b).2.2.1 ∧ (takeQ l b).2.2.1.length ≤ l.length ∧ (∀ x ∈ (takeL stepC 4 l b).1.1, (∀ s ∈ x.f0, s.size ≤ N) ∧ (∀ s ∈ x.f1, s.size ≤ N)) ∧ ((takeL stepC 4 l b).1.1.length : Int) ≤ 4 ∧ ((takeQ l b).2.1 = 0 ∨ (takeQ l b).2.1 = 2 ∧ (takeQ l b).1 = []) := by
  obtain ⟨k1, k2, k3, k4⟩ := takeL_left (stepC_left N) 4 (by decide) l b hb hl
  unfold takeQ
  by_cases hc : (takeL stepC 4 l b).1.2 = false ∨ mayQ (takeL stepC 4 l b).1.1 ≠ 0
  · rw [if_pos hc]; exact ⟨k1, k2, k3, k4, .inr ⟨rfl, rfl⟩⟩
  · rw [if_neg hc]; exact ⟨k1, k2, k3, k4, .inl rfl⟩
theorem stepD_enc {x : S36} (h : OkD x) (r : List Int) : stepD (encD x ++ r) false = ((x, true), r, false) := by
  have k1 := h.k1
  have k4 := h.k4
  obtain ⟨a1, a2, a3⟩ := numOf_enc (x := x.f0) ⟨by omega, by omega⟩ (encT (bytesOf x.f1) ++ (encQ x.f2.f0 ++ r)) false
  obtain ⟨b1, b2, b3⟩ := textOf_enc (s := x.f1) (by have := h.size; omega) (encQ x.f2.f0 ++ r) false
  have c := takeQ_enc h.hq r
  unfold stepD encD
  simp only [List.append_assoc]
  rw [a1, a2, a3, b1, b2, b3, c]
  rfl
theorem stepD_left (N : Nat) : Left stepD N (fun x => x.f1.size ≤ N ∧ (∀ y ∈ x.f2.f0, (∀ s ∈ y.f0, s.size ≤ N) ∧ (∀ s ∈ y.f1, s.size ≤ N))) := fun l b hb hl => by
  have y1 := aft_bytes hb
  have y2 := aftT_bytes y1
  have l1 := aft_len l hb
  have l2 := aftT_len _ y1
  obtain ⟨k1, k2, k3, k4, k5⟩ := takeQ_left N (badT (aft l) (badOf l b)) y2 (by omega)
  unfold stepD
  refine ⟨k1, by simp only; omega, Nat.le_trans (textOf_size _ y1) (by omega), ?_⟩
  simp only
  unfold takeQ
  split
  · intro y hy; simp at hy
  · exact k3
theorem takeDs_enc {m : List S36} (h4 : m.length ≤ 4) (h : ∀ x ∈ m, OkD x) : takeDs (encDs m) = (m, 0) := by
  have a := takeL_enc (step := stepD) (e := encD) (most := 4) (m := m) (by omega) (by omega) (fun x hx r => stepD_enc (h x hx) r) []
  rw [List.append_nil] at a
  have hp : putDs m = (encDs m, 0) := by unfold putDs; rw [if_neg (by omega), if_neg (by rw [firstD_zero.2 h]; simp)]
  unfold takeDs
  rw [show encDs m = enc (m.length : Int) ++ m.flatMap encD from rfl, a]
  simp only
  rw [hp, if_neg (by simp [encDs])]
theorem takeDs_code (l : List Int) : (∃ m, takeDs l = (m, 0) ∧ m.length ≤ 4 ∧ (∀ x ∈ m, OkD x) ∧ l = encDs m) ∨ takeDs l = ([], 2) := by
  unfold takeDs
  split
  · exact .inr rfl
  · rename_i h
    rw [not_or, not_or] at h
    obtain ⟨a1, a2, a3⟩ := putDs_ok (by simpa using h.2.1)
    refine .inl ⟨_, rfl, a1, a2, ?_⟩
    have := h.2.2
    rw [a3] at this
    exact (by simpa using this : _ = l).symm
end Go.Proofs.Ytdpigeineephlaa.Prt
namespace Go.Proofs.Ytdpigeineephlaa.Prt
open Go.RowKit Go.Proofs.YtdpigeineephlaaW.PrintWords Go.Proofs.YtdpigeineephlaaW.PrintLast Go.Proofs.YtdpigeineephlaaW.PrintMore Go.Proofs.Ytdpigeineephlaa.Num Go.Proofs.Ytdpigeineephlaa.Nam
set_option linter.unusedVariables false
set_option linter.unusedSimpArgs false

def refT (l : List Int) (b : Bool) : List ByteArray × List Int × Bool := if numOf l < 0 ∨ 4 < numOf l then ([], [], true) else takeTs (numOf l).toNat (aft l) (badOf l b)
def refC (l : List Int) (b : Bool) : S60 × List Int × Bool := (⟨(refT l b).1, (refT (refT l b).2.1 (refT l b).2.2).1⟩, (refT (refT l b).2.1 (refT l b).2.2).2)
def refCs : Nat → List Int → Bool → List S60 × List Int × Bool
  | 0, l, b => ([], l, b)
  | n + 1, l, b => ((refCs n l b).1 ++ [(refC (refCs n l b).2.1 (refCs n l b).2.2).1], (refC (refCs n l b).2.1 (refCs n l b).2.2).2)
/-- How many the reference takes. -/
def cnt (x : Int) : Nat := min x.toNat 5
def refQ (l : List Int) (b : Bool) : List S60 × Int × List Int × Bool :=
  if numOf l < 0 ∨ (refCs (cnt (numOf l)) (aft l) (badOf l b)).2.2 = true ∨ mayQ (refCs (cnt (numOf l)) (aft l) (badOf l b)).1 ≠ 0 then ([], 2, (refCs (cnt (numOf l)) (aft l) (badOf l b)).2) else ((refCs (cnt (numOf l)) (aft l) (badOf l b)).1, 0, (refCs (cnt (numOf l)) (aft l) (badOf l b)).2)
theorem refT_good {l : List Int} {b : Bool} (hb : isBytes l) (h : (refT l b).2.2 = false) : b = false ∧ l = encL (refT l b).1 ++ (refT l b).2.1 := by
  unfold refT at h ⊢
  by_cases hc : numOf l < 0 ∨ 4 < numOf l
  · rw [if_pos hc] at h; cases h
  · rw [if_neg hc] at h ⊢
    obtain ⟨g1, g2⟩ := takeTs_good _ _ (aft_bytes hb) _ h
    obtain ⟨g3, g4, _⟩ := numOf_good hb g1
    refine ⟨g3, ?_⟩
    unfold encL
    rw [takeTs_len, show (((numOf l).toNat : Nat) : Int) = numOf l by omega, List.append_assoc, ← g2]; exact g4
theorem refT_left {l : List Int} {b : Bool} (hb : isBytes l) : isBytes (refT l b).2.1 ∧ (refT l b).2.1.length ≤ l.length ∧ (∀ x ∈ (refT l b).1, x.size ≤ l.length) := by
  unfold refT
  by_cases hc : numOf l < 0 ∨ 4 < numOf l
  · rw [if_pos hc]; exact ⟨fun c hc => by simp at hc, Nat.zero_le _, fun x hx => by simp at hx⟩
  · rw [if_neg hc]
    obtain ⟨g1, g2, g3⟩ := takeTs_left (aft l) (badOf l b) (aft_bytes hb) (numOf l).toNat
    have h2 := aft_len l hb
    exact ⟨g1, Nat.le_trans g2 h2, fun x hx => Nat.le_trans (g3 x hx) h2⟩
theorem refT_enc {a : List ByteArray} (h4 : a.length ≤ 4) (ha : ∀ x ∈ a, x.size ≤ 9223372036854775807) (r : List Int) : refT (encL a ++ r) false = (a, r, false) := by
  obtain ⟨c1, c2, c3⟩ := numOf_enc (x := (a.length : Int)) ⟨by omega, by omega⟩ (encTs a ++ r) false
  have d := takeTs_enc a ha r false a.length (Nat.le_refl _)
  rw [List.take_length, List.drop_length] at d
  unfold refT encL
  rw [List.append_assoc, c1, c2, c3, if_neg (by omega), Int.toNat_natCast, d]; rfl
theorem refC_good {l : List Int} {b : Bool} (hb : isBytes l) (h : (refC l b).2.2 = false) : b = false ∧ l = encC (refC l b).1 ++ (refC l b).2.1 := by
  unfold refC at h ⊢
  obtain ⟨k1, k2⟩ := refT_good (refT_left (b := b) hb).1 h
  obtain ⟨j1, j2⟩ := refT_good hb k1
  refine ⟨j1, ?_⟩
  unfold encC
  simp only
  rw [List.append_assoc, ← k2]; exact j2
theorem refC_left {l : List Int} {b : Bool} (hb : isBytes l) : isBytes (refC l b).2.1 ∧ (refC l b).2.1.length ≤ l.length ∧ (∀ s ∈ (refC l b).1.f0, s.size ≤ l.length) ∧ (∀ s ∈ (refC l b).1.f1, s.size ≤ l.length) := by
  obtain ⟨h1, h2, h3⟩ := refT_left (b := b) hb
  obtain ⟨g1, g2, g3⟩ := refT_left (b := (refT l b).2.2) h1
  exact ⟨g1, Nat.le_trans g2 h2, h3, fun s hs => Nat.le_trans (g3 s hs) h2⟩
theorem refC_enc {x : S60} (h : OkC x) (r : List Int) : refC (encC x ++ r) false = (x, r, false) := by
  have f := fitC_iff.1 h.fit
  have e : encC x ++ r = encL x.f0 ++ (encL x.f1 ++ r) := by unfold encC; rw [List.append_assoc]
  unfold refC
  rw [e, refT_enc h.h0 f.1]
  simp only
  rw [refT_enc h.h1 f.2]
theorem refCs_len (l : List Int) (b : Bool) : ∀ n, (refCs n l b).1.length = n
  | 0 => rfl
  | n + 1 => by simp only [refCs, List.length_append, List.length_singleton, refCs_len l b n]
theorem refCs_left {l : List Int} {b : Bool} (hb : isBytes l) : ∀ n, isBytes (refCs n l b).2.1 ∧ (refCs n l b).2.1.length ≤ l.length ∧ (∀ x ∈ (refCs n l b).1, (∀ s ∈ x.f0, s.size ≤ l.length) ∧ (∀ s ∈ x.f1, s.size ≤ l.length))
  | 0 => ⟨hb, Nat.le_refl _, fun x hx => by simp [refCs] at hx⟩
  | n + 1 => by
    obtain ⟨h1, h2, h3⟩ := refCs_left (b := b) hb n
    obtain ⟨g1, g2, g3, g4⟩ := refC_left (b := (refCs n l b).2.2) h1
    refine ⟨g1, Nat.le_trans g2 h2, fun x hx => ?_⟩
    rw [refCs] at hx
    rcases List.mem_append.1 hx with hx | hx
    · exact h3 x hx
    · rw [List.mem_singleton.1 hx]; exact ⟨fun s hs => Nat.le_trans (g3 s hs) h2, fun s hs => Nat.le_trans (g4 s hs) h2⟩
theorem refCs_good {l : List Int} {b : Bool} (hb : isBytes l) : ∀ n, (refCs n l b).2.2 = false → b = false ∧ l = (refCs n l b).1.flatMap encC ++ (refCs n l b).2.1
  | 0, h => ⟨h, rfl⟩
  | n + 1, h => by
    rw [refCs] at h ⊢
    simp only at h ⊢
    obtain ⟨g1, g2⟩ := refC_good (refCs_left (b := b) hb n).1 h
    obtain ⟨k1, k2⟩ := refCs_good hb n g1
    refine ⟨k1, ?_⟩
    rw [List.flatMap_append, List.append_assoc, List.flatMap_singleton, ← g2]; exact k2
theorem refCs_enc {m : List S60} (h : ∀ x ∈ m, OkC x) (r : List Int) : ∀ i, i ≤ m.length → refCs i (m.flatMap encC ++ r) false = (m.take i, (m.drop i).flatMap encC ++ r, false)
  | 0, _ => by simp [refCs]
  | i + 1, hi => by
    have ih := refCs_enc h r i (by omega)
    have hd : m.drop i = m[i] :: m.drop (i + 1) := List.drop_eq_getElem_cons (by omega)
    rw [refCs, ih]
    simp only
    rw [hd, List.flatMap_cons, List.append_assoc, refC_enc (h _ (List.getElem_mem _))]
    simp only
    rw [List.take_succ_eq_append_getElem (by omega)]
theorem refQ_good {l : List Int} {b : Bool} (hb : isBytes l) {q : List S60} {l' : List Int} {b' : Bool} (h : refQ l b = (q, 0, l', b')) : b = false ∧ b' = false ∧ OkQ q ∧ l = encQ q ++ l' := by
  unfold refQ at h
  split at h
  · simp at h
  rename_i hc
  rw [not_or, not_or] at hc
  obtain ⟨h0, h1, h2⟩ := hc
  simp only [Prod.mk.injEq] at h
  obtain ⟨rfl, -, h3⟩ := h
  have e1 := congrArg (fun z => z.1) h3
  have e2 := congrArg (fun z => z.2) h3
  simp only at e1 e2
  subst e1; subst e2
  have h1' : (refCs (cnt (numOf l)) (aft l) (badOf l b)).2.2 = false := by simpa using h1
  have ok := mayQ_zero.1 (by simpa using h2 : mayQ (refCs (cnt (numOf l)) (aft l) (badOf l b)).1 = 0)
  obtain ⟨g1, g2⟩ := refCs_good (aft_bytes hb) _ h1'
  obtain ⟨g3, g4, _⟩ := numOf_good hb g1
  refine ⟨g3, h1', ok, ?_⟩
  have h4 := ok.h4
  rw [refCs_len] at h4
  unfold encQ
  rw [refCs_len, show ((cnt (numOf l) : Nat) : Int) = numOf l by unfold cnt at h4 ⊢; omega, List.append_assoc, ← g2]; exact g4
theorem refQ_enc {q : List S60} (h : OkQ q) (r : List Int) : refQ (encQ q ++ r) false = (q, 0, r, false) := by
  have h4 := h.h4
  obtain ⟨c1, c2, c3⟩ := numOf_enc (x := (q.length : Int)) ⟨by omega, by omega⟩ (q.flatMap encC ++ r) false
  have d := refCs_enc h.hc r q.length (Nat.le_refl _)
  rw [List.take_length, List.drop_length] at d
  unfold refQ encQ
  rw [List.append_assoc, c1, c2, c3, show cnt (q.length : Int) = q.length by unfold cnt; omega, d]
  simp only
  rw [if_neg (by rw [mayQ_zero.2 h]; simp only [ne_eq, not_true_eq_false, or_false]; rintro (h | h); (· omega); · cases h)]
  rfl
theorem refQ_code (l : List Int) (b : Bool) : (refQ l b).2.1 = 0 ∨ (refQ l b).2.1 = 2 ∧ (refQ l b).1 = [] := by
  unfold refQ
  split
  · exact .inr ⟨rfl, rfl⟩
  · exact .inl rfl
theorem takeQ_code (l : List Int) (b : Bool) : (takeQ l b).2.1 = 0 ∨ (takeQ l b).2.1 = 2 ∧ (takeQ l b).1 = [] := by
  unfold takeQ
  split
  · exact .inr ⟨rfl, rfl⟩
  · exact .inl rfl
/-- The reference takes what the program takes. -/
theorem refQ_same (l : List Int) (b : Bool) (hb : isBytes l) : (refQ l b).1 = (takeQ l b).1 ∧ (refQ l b).2.1 = (takeQ l b).2.1 ∧ ((takeQ l b).2.1 = 0 → (refQ l b).2.2 = (takeQ l b).2.2) := by
  rcases takeQ_code l b with h | ⟨h, h'⟩
  · obtain ⟨g1, g2, g3, g4, g5⟩ := takeQ_good hb (q := (takeQ l b).1) (l' := (takeQ l b).2.2.1) (b' := (takeQ l b).2.2.2) (by rw [← h])
    have e := refQ_enc g4 (takeQ l b).2.2.1
    rw [← g5] at e
    subst g1
    rw [e]
    exact ⟨rfl, h.symm, fun _ => Prod.ext rfl g2.symm⟩
  · rcases refQ_code l b with k | ⟨k, k'⟩
    · obtain ⟨g1, g2, g4, g5⟩ := refQ_good hb (q := (refQ l b).1) (l' := (refQ l b).2.2.1) (b' := (refQ l b).2.2.2) (by rw [← k])
      have e := takeQ_enc g4 (refQ l b).2.2.1
      rw [← g5] at e
      subst g1
      rw [e] at h; cases h
    · exact ⟨by rw [h', k'], by rw [h, k], fun z => by rw [h] at z; cases z⟩
/-- So many projections that the reference takes: none: one is none. -/
def refDs : Nat → List Int → Bool → List S36 → Option (List S36)
  | 0, _, _, acc => some acc
  | n + 1, l, b, acc => if (refQ (aftT (aft l)) (badT (aft l) (badOf l b))).2.1 ≠ 0 then none
    else refDs n (refQ (aftT (aft l)) (badT (aft l) (badOf l b))).2.2.1 (refQ (aftT (aft l)) (badT (aft l) (badOf l b))).2.2.2 (acc ++ [⟨numOf l, textOf (aft l), ⟨(refQ (aftT (aft l)) (badT (aft l) (badOf l b))).1⟩⟩])
def fin (l0 : List Int) : Option (List S36) → List S36 × Int
  | none => ([], 2)
  | some m => if (putDs m).2 ≠ 0 ∨ (putDs m).1 ≠ l0 then ([], 2) else (m, 0)
theorem refDs_enc {m : List S36} (h : ∀ x ∈ m, OkD x) (r : List Int) : ∀ acc, refDs m.length (m.flatMap encD ++ r) false acc = some (acc ++ m) := by
  induction m with
  | nil => intro acc; simp [refDs]
  | cons x t ih =>
    intro acc
    have hx := h x (by simp)
    have k1 := hx.k1
    have k4 := hx.k4
    obtain ⟨a1, a2, a3⟩ := numOf_enc (x := x.f0) ⟨by omega, by omega⟩ (encT (bytesOf x.f1) ++ (encQ x.f2.f0 ++ (t.flatMap encD ++ r))) false
    obtain ⟨b1, b2, b3⟩ := textOf_enc (s := x.f1) (by have := hx.size; omega) (encQ x.f2.f0 ++ (t.flatMap encD ++ r)) false
    have c := refQ_enc hx.hq (t.flatMap encD ++ r)
    have e : (x :: t).flatMap encD ++ r = enc x.f0 ++ (encT (bytesOf x.f1) ++ (encQ x.f2.f0 ++ (t.flatMap encD ++ r))) := by
      rw [List.flatMap_cons]; unfold encD; simp only [List.append_assoc]
    rw [List.length_cons, e, refDs, a1, a2, a3, b1, b2, b3, c]
    simp only
    rw [if_neg (by simp), ih (fun y hy => h y (by simp [hy])), List.append_assoc]
    rfl
/-- The reference's projections are those that the program takes. -/
theorem refDs_same (l : List Int) : fin l (refDs (cnt (numOf l)) (aft l) (badOf l false) []) = takeDs l := by
  rcases takeDs_code l with ⟨m, h1, h4, ho, he⟩ | h2
  · rw [h1, he]
    obtain ⟨c1, c2, c3⟩ := numOf_enc (x := (m.length : Int)) ⟨by omega, by omega⟩ (m.flatMap encD) false
    have d := refDs_enc ho [] []
    rw [List.append_nil, List.nil_append] at d
    unfold encDs
    rw [c1, c2, c3, show cnt (m.length : Int) = m.length by unfold cnt; omega, d]
    have hp : putDs m = (encDs m, 0) := by unfold putDs; rw [if_neg (by omega), if_neg (by rw [firstD_zero.2 ho]; simp)]
    show (if (putDs m).2 ≠ 0 ∨ (putDs m).1 ≠ _ then _ else _) = _
    rw [hp, if_neg (by simp [encDs])]
  · rw [h2]
    cases hr : refDs (cnt (numOf l)) (aft l) (badOf l false) [] with
    | none => rfl
    | some m =>
      show (if (putDs m).2 ≠ 0 ∨ (putDs m).1 ≠ l then _ else _) = _
      by_cases hc : (putDs m).2 ≠ 0 ∨ (putDs m).1 ≠ l
      · rw [if_pos hc]
      · rw [not_or] at hc
        obtain ⟨a1, a2, a3⟩ := putDs_ok (by simpa using hc.1)
        have e := hc.2
        rw [a3] at e
        have e2 : encDs m = l := by simpa using e
        have := takeDs_enc a1 a2
        rw [e2, h2] at this
        cases this
end Go.Proofs.Ytdpigeineephlaa.Prt
namespace Go.Proofs.Ytdpigeineephlaa.Prt
open Go.RowKit Go.Proofs.YtdpigeineephlaaW.PrintWords Go.Proofs.YtdpigeineephlaaW.PrintLast Go.Proofs.YtdpigeineephlaaW.PrintMore Go.Proofs.Ytdpigeineephlaa.Num Go.Proofs.Ytdpigeineephlaa.Nam
set_option linter.unusedVariables false
set_option linter.unusedSimpArgs false

/-- Strings of bytes are alike just if the bytes are. -/
theorem bytes_eq {a b : List Int} (ha : isBytes a) (hb : isBytes b) : ((strOfNums a).toList == (strOfNums b).toList) = decide (a = b) := str_beq ha hb
theorem equal_calls (A : Option Addr) (c : Nat) (l : List Int) (A' : Option Addr) (c' : Nat) (l' : List Int) (w : World) (hr : Kd.C (Kd.int .u8) w A l.length l) (hc : l.length ≤ c) (hr' : Kd.C (Kd.int .u8) w A' l'.length l') (hc' : l'.length ≤ c') (hb : isBytes l) (hb' : isBytes l') :
    Calls Try.prog 49 #[.slice A l.length c, .slice A' l'.length c'] w fun e w' => e = .returned (.bool (decide (l = l'))) ∧ w = w' := by
  have HR := Aside0.mk hr
  have HR' := Aside0.mk hr'
  have HE := Aside0.mk (bytes_eq hb hb')
  clear hr hr' hb hb' hc hc'
  go_enter Try.func49, Try.ntmps49
  go_wp2_with (first | ((with_reducible refine gate_dst (N := 6) rfl ?_); (try (refine gate_guard (by rfl) ?_; dsimp only)); refine Gen.ev_string' (strOfNums l) rfl 22 9 5 (.tmp 5) rfl Try.underlying22 Try.underlying9 Try.underlying5 rfl HR.out rfl ?_) | ((with_reducible refine gate_dst (N := 8) rfl ?_); (try (refine gate_guard (by rfl) ?_; dsimp only)); refine Gen.ev_string' (strOfNums l') rfl 22 9 5 (.tmp 7) rfl Try.underlying22 Try.underlying9 Try.underlying5 rfl HR'.out rfl ?_))
  go_ret
  exact ⟨by rw [← HE.out]; rfl, rfl⟩
theorem S_set {α : Type} {d : Kd α} {e N t E : Nat} {w : World} {v : Value} {l : List α} {cells : Array Value} (h : Kd.S d e w N (fun _ => True) v l) (hb : w.heap[E]? = some (.cells cells t (0, 0))) (ht : ∀ q, q ∈ e :: d.E → q ≠ t) (i : Nat) (u : Value) : Kd.S d e (w.setCell ⟨E, i, none⟩ u) N (fun _ => True) v l :=
  Kd.S_mono (Kd.S_far (p := ⟨E, i, none⟩) (Kd.S_types h hb ht) (fun k hk => hk.2) u) (fun _ _ => trivial)
end Go.Proofs.Ytdpigeineephlaa.Prt
namespace Go.Proofs.Ytdpigeineephlaa.Prt
open Go.RowKit Go.Proofs.YtdpigeineephlaaW.PrintWords Go.Proofs.YtdpigeineephlaaW.PrintLast Go.Proofs.YtdpigeineephlaaW.PrintMore Go.Proofs.Ytdpigeineephlaa.Num Go.Proofs.Ytdpigeineephlaa.Nam
set_option linter.unusedVariables false
set_option linter.unusedSimpArgs false

/-- What a call leaves that was handed the reference's reader: the reader, its bytes, the rest of the memory. -/
structure Lw (w w' : World) (P : Nat → Prop) (g : Nat) (n : Nat) (q : List Int × Bool) : Prop where
  rd : Rd 50 P w' g q.1 q.2
  by_ : isBytes q.1
  len : q.1.length ≤ n
  below : Below g w w'
  keep : KeepBut w w' g none
theorem Lw.trans {w w1 w2 : World} {P : Nat → Prop} {g n n1 : Nat} {q q1 : List Int × Bool} (h : Lw w w1 P g n q) (k : Lw w1 w2 P g n1 q1) (hn : n1 ≤ n) : Lw w w2 P g n q1 := ⟨k.rd, k.by_, Nat.le_trans k.len hn, h.below.trans k.below, h.keep.trans k.keep (.inl rfl)⟩
theorem Lw.up {w w1 w2 : World} {P : Nat → Prop} {g n : Nat} {q : List Int × Bool} (h : Lw w w1 P g n q) (hb : Below w1.heap.size w1 w2) : Lw w w2 P g n q := ⟨h.rd.below hb, h.by_, h.len, h.below.trans (hb.mono (Nat.le_of_lt h.rd.lt)), h.keep.trans (KeepBut.of_below hb g none) (.inl rfl)⟩
theorem Lw.set {w w1 : World} {P : Nat → Prop} {g n : Nat} {q : List Int × Bool} (h : Lw w w1 P g n q) (hg : g < w.heap.size) (hP : ∀ k, P k → k < w.heap.size) {Q : Nat} (hQ : w.heap.size ≤ Q) (i : Nat) (u : Value) : Lw w (w1.setCell ⟨Q, i, none⟩ u) P g n q :=
  ⟨h.rd.kept ((KeepBut.refl w1 Q none).set_ i _) (by omega) (fun hp => by have := hP Q hp; omega), h.by_, h.len, h.below.setCell (p := ⟨Q, i, none⟩) (by show g ≤ Q; omega) _, keep_far h.keep hQ _⟩
theorem Lw.grown {w w1 w2 : World} {P : Nat → Prop} {g n : Nat} {q : List Int × Bool} {v : Value} (h : Lw w w1 P g n q) (hg : g < w.heap.size) (hP : ∀ k, P k → k < w.heap.size) (hgr : w1.grownBy w2 v.ownBlock) (hv : ∀ k, v.ownBlock = some k → w.heap.size ≤ k) (hb : Below g w w2) : Lw w w2 P g n q := by
  refine ⟨h.rd.grown hgr (ne_base hv hg) (fun k hk => ne_base hv (hP k hk)), h.by_, h.len, hb, ?_⟩
  refine ⟨Nat.le_trans h.keep.1 hgr.size, fun i hi hne hr => ?_⟩
  rw [← h.keep.2 i hi hne hr]
  exact hgr.block i (Nat.lt_of_lt_of_le hi h.keep.1) (fun e => by have := hv i e.symm; omega)
theorem refTaken_calls (P : Nat → Prop) (w : World) (g : Nat) (l : List Int) (bad : Bool) (hI : Rd 50 P w g l bad) (hb : isBytes l) (hP : ∀ k, P k → k < w.heap.size) (r : List ByteArray × List Int × Bool) (hr : refT l bad = r) :
    Calls Try.prog 45 #[.pointer (some ⟨g, 0, none⟩), .int .i64 4] w fun e w' => ∃ v, e = .returned v ∧ Kd.string.R 9 w' w.heap.size (fun _ => True) v r.1 ∧ Lw w w' P g l.length r.2 := by
  obtain ⟨x, hx⟩ : ∃ x, numOf l = x := ⟨_, rfl⟩
  have hri := numOf_i64 hb
  rw [hx] at hri
  obtain ⟨hr1, hr2⟩ := hri
  unfold refT at hr
  rw [hx] at hr
  have HN := Aside0.mk (refNum_calls' x P w g l bad hI hb hx)
  have HAB := Aside0.mk (And.intro (aft_bytes hb) (aft_len l hb))
  have HPP := Aside0.mk hP
  have HGW := Aside0.mk hI.lt
  have HR := Aside0.mk hr
  have HL := Aside0.mk (Below.refl w.heap.size w)
  clear hI hb hx hP hr
  go_enter Try.func45, Try.ntmps45
  go_wp2_with fail
  refine HN.out.mono ?_
  rintro e w1 ⟨rfl, hI1, hb1, hk1⟩
  have HL1 := Aside0.mk (Lw.mk (n := l.length) (q := (aft l, badOf l bad)) hI1 HAB.out.1 HAB.out.2 hb1 hk1)
  have HB := Aside0.mk (Below.refl w1.heap.size w1)
  clear hI1 hb1 hk1 HN HL
  go_upto_region 3 with (first | ((with_reducible refine gate_dst (N := 10) rfl ?_); refine Kd.R_lit Kd.string (w0 := w1) w1.heap.size 9 ?hg (N := 10) ?hd (xs := []) (inner := []) (ok := fun _ => True) (okp := fun _ => True) ?hr ?hp (fun _ hk => hk) trivial ?hB ?hS (by simp) ?_; (case hd => rfl); (case hg => rfl); (case hr => first | (go_simp; done) | (go_simp; rfl)); (case hp => exact (Reps.none _ _)); (case hB => exact (by repeat (first | (with_reducible first | exact HB.out | apply below_alloc | apply pw_below_drewN | apply below_drew1) | exact HB.out))); (case hS => exact (below_size (by repeat (first | (with_reducible first | exact HB.out | apply below_alloc | apply pw_below_drewN | apply below_drew1) | exact HB.out)))); intro v2 w2 ho hb hg hat; have n0_ := Aside0.mk (hb); have n1_ := Aside0.mk (ho); clear HB; have HB := n0_; have HO2 := n1_; clear n0_ n1_; clear ho hb hg hat))
  have n1_ := Aside0.mk (HL1.out.up HB.out)
  have n2_ := Aside0.mk (Kd.R_lower HO2.out HL1.out.keep.1)
  clear HL1 HO2 HB
  have HL2 := n1_
  have HO2 := n2_
  clear n1_ n2_
  by_cases hneg : x < 0
  · have hd : decide (x < 0) = true := decide_eq_true hneg
    obtain ⟨A', c', hblk, _, _, _, hPg⟩ := HL2.out.rd
    have HBK := Aside0.mk hblk
    have HPG := Aside0.mk hPg
    have hc0 := blk_cell hblk 0
    have hc1 := blk_cell hblk 1
    have hf0 := blk_frozen hblk 0
    have hf1 := blk_frozen hblk 1
    clear hblk hPg
    go_wp2
    go_ret
    rw [← HR.out, if_pos (.inl hneg)]
    have h2 := blk_set (blk_set HBK.out 1 (.bool true)) 0 (.slice none 0 0)
    refine ⟨_, rfl, R_set (R_set HO2.out HBK.out (by decide) 1 _) (blk_set HBK.out 1 _) (by decide) 0 _, ?_⟩
    exact ⟨⟨none, 0, by simpa using h2, Nat.le_refl _, Kd.C_nil _ _, (fun _ h _ => by cases h), HPG.out⟩, fun c hc => by simp at hc, Nat.zero_le _, (HL2.out.below.setCell (p := ⟨g, 1, none⟩) (Nat.le_refl g) _).setCell (p := ⟨g, 0, none⟩) (Nat.le_refl g) _, (HL2.out.keep.set_ 1 _).set_ 0 _⟩
  have hd : decide (x < 0) = false := decide_eq_false hneg
  by_cases hbig : 4 < x
  · have hd2 : decide ((4 : Int) < x) = true := decide_eq_true hbig
    obtain ⟨A', c', hblk, _, _, _, hPg⟩ := HL2.out.rd
    have HBK := Aside0.mk hblk
    have HPG := Aside0.mk hPg
    have hc0 := blk_cell hblk 0
    have hc1 := blk_cell hblk 1
    have hf0 := blk_frozen hblk 0
    have hf1 := blk_frozen hblk 1
    clear hblk hPg
    go_wp2
    go_ret
    rw [← HR.out, if_pos (.inr hbig)]
    have h2 := blk_set (blk_set HBK.out 1 (.bool true)) 0 (.slice none 0 0)
    refine ⟨_, rfl, R_set (R_set HO2.out HBK.out (by decide) 1 _) (blk_set HBK.out 1 _) (by decide) 0 _, ?_⟩
    exact ⟨⟨none, 0, by simpa using h2, Nat.le_refl _, Kd.C_nil _ _, (fun _ h _ => by cases h), HPG.out⟩, fun c hc => by simp at hc, Nat.zero_le _, (HL2.out.below.setCell (p := ⟨g, 1, none⟩) (Nat.le_refl g) _).setCell (p := ⟨g, 0, none⟩) (Nat.le_refl g) _, (HL2.out.keep.set_ 1 _).set_ 0 _⟩
  have hd2 : decide ((4 : Int) < x) = false := decide_eq_false hbig
  obtain ⟨n, rfl⟩ := Int.eq_ofNat_of_zero_le (Int.not_lt.1 hneg)
  have HR2 := Aside0.mk ((if_neg (by omega : ¬ ((n : Int) < 0 ∨ 4 < (n : Int)))).symm.trans HR.out)
  rw [Int.toNat_natCast] at HR2
  clear HR
  go_wp2
  go_loopg [6, 7] n (fun k v6 v7 w' => ∃ i : Nat, v7 = .int .i64 (i : Int) ∧ Aside0 (i + k = n) ∧ Aside0 (Kd.string.R 9 w' w.heap.size (fun _ => True) v6 (takeTs i (aft l) (badOf l bad)).1) ∧ Aside0 (Lw w w' P g l.length (takeTs i (aft l) (badOf l bad)).2))
  case atStart => exact ⟨0, rfl, ⟨by omega⟩, HO2, HL2⟩
  case round =>
    clear HO2 HL2
    obtain ⟨i, rfl, HE, HO, HL⟩ := hrel
    by_cases hlt : i < n
    · have hb1 : decide ((i : Int) < (n : Int)) = true := decide_eq_true (by omega)
      have HLEN := Aside0.mk (takeTs_len (aft l) (badOf l bad) i)
      obtain ⟨⟨tags, l1, b1⟩, hq⟩ : ∃ q, takeTs i (aft l) (badOf l bad) = q := ⟨_, rfl⟩
      rw [hq] at HO HL HLEN
      have HQ := Aside0.mk (show takeTs (i + 1) (aft l) (badOf l bad) = (tags ++ [textOf l1], aftT l1, badT l1 b1) by rw [takeTs, hq])
      have hlen : tags.length ≤ 1000 := by have := HLEN.out; simp only at this; omega
      obtain ⟨A6, c6, e6⟩ := Kd.R_slice HO.out
      subst e6
      have HT := Aside0.mk (refText_calls P wr g l1 b1 HL.out.rd HL.out.by_)
      have HBY := Aside0.mk (And.intro (aftT_bytes HL.out.by_) (aftT_len l1 HL.out.by_))
      obtain ⟨y, hy⟩ : ∃ y, textOf l1 = y := ⟨_, rfl⟩
      rw [hy] at HQ HT
      clear hq hy HLEN
      go_wp2_with fail
      refine HT.out.mono ?_
      rintro e w2 ⟨rfl, hI, hb, hk⟩
      have HL2 := Aside0.mk (HL.out.trans (Lw.mk (n := l1.length) (q := (aftT l1, badT l1 b1)) hI HBY.out.1 HBY.out.2 hb hk) HL.out.len)
      have HO2 := Aside0.mk (R_off' HO.out HGW.out hk)
      clear hI hb hk HL HO HT
      go_wp2_with (first | ((with_reducible refine gate_builtin (b := .append) (xs := #[.tmp 30, .tmp 33]) rfl ?_); at_builtin; refine Kd.R_append Kd.string (w0 := w2) w.heap.size rfl (.tmp 30) (.tmp 33) 58 9 (.string ⟨#[]⟩) 16 rfl Try.underlying58 info_str rfl (by decide) (by omega) (.slice A6 tags.length c6) tags y [.string y] (fun _ => True) (fun _ => False) rfl rfl rfl (fun _ hk => hk.elim) (fun _ _ => trivial) HO2.out (Below.refl _ _) HL2.out.keep.1 (by omega) ?_; intro v w5 ho hb hg hat; have HO5 := Aside0.mk ho; have HL5 := Aside0.mk (HL2.out.grown HGW.out HPP.out hg (Kd.R_base HO2.out) (HL2.out.below.trans (hb.mono (Nat.le_of_lt HGW.out)))); clear ho hb hg hat))
      go_roundg (n - (i + 1))
      case measure => have := HE.out; omega
      case rel => exact ⟨i + 1, by go_num, ⟨by have := HE.out; omega⟩, ⟨by rw [HQ.out]; exact HO5.out⟩, ⟨by rw [HQ.out]; exact HL5.out⟩⟩
    · have hb1 : decide ((i : Int) < (n : Int)) = false := decide_eq_false (by omega)
      have hi : i = n := by have := HE.out; omega
      subst hi
      go_wp2
      go_ret
      rw [← HR2.out]
      exact ⟨_, rfl, HO.out, HL.out⟩
end Go.Proofs.Ytdpigeineephlaa.Prt
namespace Go.Proofs.Ytdpigeineephlaa.Prt
open Go.RowKit Go.Proofs.YtdpigeineephlaaW.PrintWords Go.Proofs.YtdpigeineephlaaW.PrintLast Go.Proofs.YtdpigeineephlaaW.PrintMore Go.Proofs.Ytdpigeineephlaa.Num Go.Proofs.Ytdpigeineephlaa.Nam
set_option linter.unusedVariables false
set_option linter.unusedSimpArgs false

/-- What a call leaves that was handed a reader: the reader, its bytes, the rest of the memory. -/
structure Lv (w w' : World) (P : Nat → Prop) (g : Nat) (n : Nat) (q : List Int × Bool) : Prop where
  rd : Rd 71 P w' g q.1 q.2
  by_ : isBytes q.1
  len : q.1.length ≤ n
  below : Below g w w'
  keep : KeepBut w w' g none
theorem Lv.trans {w w1 w2 : World} {P : Nat → Prop} {g n n1 : Nat} {q q1 : List Int × Bool} (h : Lv w w1 P g n q) (k : Lv w1 w2 P g n1 q1) (hn : n1 ≤ n) : Lv w w2 P g n q1 := ⟨k.rd, k.by_, Nat.le_trans k.len hn, h.below.trans k.below, h.keep.trans k.keep (.inl rfl)⟩
theorem Lv.up {w w1 w2 : World} {P : Nat → Prop} {g n : Nat} {q : List Int × Bool} (h : Lv w w1 P g n q) (hb : Below w1.heap.size w1 w2) : Lv w w2 P g n q := ⟨h.rd.below hb, h.by_, h.len, h.below.trans (hb.mono (Nat.le_of_lt h.rd.lt)), h.keep.trans (KeepBut.of_below hb g none) (.inl rfl)⟩
theorem Lv.set {w w1 : World} {P : Nat → Prop} {g n : Nat} {q : List Int × Bool} (h : Lv w w1 P g n q) (hg : g < w.heap.size) (hP : ∀ k, P k → k < w.heap.size) {Q : Nat} (hQ : w.heap.size ≤ Q) (i : Nat) (u : Value) : Lv w (w1.setCell ⟨Q, i, none⟩ u) P g n q :=
  ⟨h.rd.kept ((KeepBut.refl w1 Q none).set_ i _) (by omega) (fun hp => by have := hP Q hp; omega), h.by_, h.len, h.below.setCell (p := ⟨Q, i, none⟩) (by show g ≤ Q; omega) _, keep_far h.keep hQ _⟩
theorem Lv.grown {w w1 w2 : World} {P : Nat → Prop} {g n : Nat} {q : List Int × Bool} {v : Value} (h : Lv w w1 P g n q) (hg : g < w.heap.size) (hP : ∀ k, P k → k < w.heap.size) (hgr : w1.grownBy w2 v.ownBlock) (hv : ∀ k, v.ownBlock = some k → w.heap.size ≤ k) (hb : Below g w w2) : Lv w w2 P g n q := by
  refine ⟨h.rd.grown hgr (ne_base hv hg) (fun k hk => ne_base hv (hP k hk)), h.by_, h.len, hb, ?_⟩
  refine ⟨Nat.le_trans h.keep.1 hgr.size, fun i hi hne hr => ?_⟩
  rw [← h.keep.2 i hi hne hr]
  exact hgr.block i (Nat.lt_of_lt_of_le hi h.keep.1) (fun e => by have := hv i e.symm; omega)
theorem takeN_ok {α : Type} {step : Stp α} {n : Nat} {l : List Int} {b : Bool} {acc : List α} {x : α} {l' : List Int} {b' : Bool} (h : step l b = ((x, true), l', b')) (hb : b' = false) : takeN step (n + 1) l b acc = takeN step n l' b' (acc ++ [x]) := by
  rw [takeN, h, if_neg (by rw [hb]; simp)]
theorem takeN_no {α : Type} {step : Stp α} {n : Nat} {l : List Int} {b : Bool} {acc : List α} {x : α} {ok : Bool} {l' : List Int} {b' : Bool} (h : step l b = ((x, ok), l', b')) (hb : ok = false ∨ b' = true) : takeN step (n + 1) l b acc = (([], false), l', b') := by
  rw [takeN, h, if_pos hb]
theorem takenStr_calls (step : Stp ByteArray) (most : Int) (G : Nat) (q1 : Value) (P : Nat → Prop) (w : World) (g : Nat) (l : List Int) (bad : Bool) (hI : Rd 71 P w g l bad) (hb : isBytes l) (hP : ∀ k, P k → k < w.heap.size) (hm0 : 0 ≤ most) (hm1 : most ≤ 1000)
    (hent : ∀ (xs : Array Value) (W : World), (callFunc G xs).run Try.prog W = .ok (.enter G xs) W)
    (hs : ∀ w1 l1 b1, Lv w w1 P g l.length (l1, b1) → Calls Try.prog G #[q1] w1 fun e w2 => e = .returned (.tuple #[.string (step l1 b1).1.1, .bool (step l1 b1).1.2]) ∧ Lv w1 w2 P g l1.length (step l1 b1).2)
    (r : (List ByteArray × Bool) × List Int × Bool) (hr : takeL step most l bad = r) :
    Calls Try.prog 43 #[.pointer (some ⟨g, 0, none⟩), .int .i64 most, .func (.func G) #[] #[q1]] w fun e w' =>
      ∃ v, e = .returned (.tuple #[v, .bool r.1.2]) ∧ Kd.string.R 9 w' w.heap.size (fun _ => True) v r.1.1 ∧ Lv w w' P g l.length r.2 := by
  obtain ⟨x, hx⟩ : ∃ x, numOf l = x := ⟨_, rfl⟩
  have hri := numOf_i64 hb
  rw [hx] at hri
  obtain ⟨hr1, hr2⟩ := hri
  unfold takeL at hr
  rw [hx] at hr
  have HN := Aside0.mk (num_calls' x P w g l bad hI hb hx)
  have HAB := Aside0.mk (And.intro (aft_bytes hb) (aft_len l hb))
  have HS := Aside0.mk hs
  have HPP := Aside0.mk hP
  have HGW := Aside0.mk hI.lt
  have HR := Aside0.mk hr
  clear hI hb hs hx hP hr
  by_cases hneg : x < 0
  · have hd : decide (x < 0) = true := decide_eq_true hneg
    go_enter Try.func43, Try.ntmps43
    go_wp2_with fail
    refine HN.out.mono ?_
    rintro e w1 ⟨rfl, hI1, hb1, hk1⟩
    have n1_ := Aside0.mk (Lv.mk (n := l.length) (q := (aft l, badOf l bad)) hI1 HAB.out.1 HAB.out.2 hb1 hk1)
    clear hI1 hb1 hk1
    go_wp2
    go_ret2
    rw [← HR.out, if_pos (.inl hneg)]
    exact ⟨_, rfl, Kd.R_nil _ _ _ _ _, n1_.out⟩
  have hd : decide (x < 0) = false := decide_eq_false hneg
  by_cases hbig : most < x
  · have hd2 : decide (most < x) = true := decide_eq_true hbig
    go_enter Try.func43, Try.ntmps43
    go_wp2_with fail
    refine HN.out.mono ?_
    rintro e w1 ⟨rfl, hI1, hb1, hk1⟩
    have n1_ := Aside0.mk (Lv.mk (n := l.length) (q := (aft l, badOf l bad)) hI1 HAB.out.1 HAB.out.2 hb1 hk1)
    clear hI1 hb1 hk1
    go_wp2
    go_ret2
    rw [← HR.out, if_pos (.inr hbig)]
    exact ⟨_, rfl, Kd.R_nil _ _ _ _ _, n1_.out⟩
  have hd2 : decide (most < x) = false := decide_eq_false hbig
  obtain ⟨n, rfl⟩ := Int.eq_ofNat_of_zero_le (Int.not_lt.1 hneg)
  have HR2 := Aside0.mk ((if_neg (by omega : ¬ ((n : Int) < 0 ∨ most < (n : Int)))).symm.trans HR.out)
  rw [Int.toNat_natCast] at HR2
  clear HR
  go_enter Try.func43, Try.ntmps43
  go_wp2_with fail
  refine HN.out.mono ?_
  rintro e w1 ⟨rfl, hI1, hb1, hk1⟩
  have n1_ := Aside0.mk (Lv.mk (n := l.length) (q := (aft l, badOf l bad)) hI1 HAB.out.1 HAB.out.2 hb1 hk1)
  clear hI1 hb1 hk1 HN
  go_wp2
  go_loopg [9, 22] n (fun k v9 v22 w' => ∃ (i : Nat) (l1 : List Int) (b1 : Bool) (acc : List ByteArray), v22 = .int .i64 (i : Int) ∧ Aside0 (i + k = n) ∧ Aside0 (acc.length = i) ∧ Aside0 (takeN step k l1 b1 acc = r) ∧ Aside0 (Kd.string.R 9 w' w.heap.size (fun _ => True) v9 acc) ∧ Aside0 (Lv w w' P g l.length (l1, b1)))
  case atStart => exact ⟨0, _, _, [], rfl, ⟨by omega⟩, ⟨rfl⟩, HR2, ⟨Kd.R_nil _ _ _ _ _⟩, n1_⟩
  case round =>
    clear HR2 n1_
    obtain ⟨i, l1, b1, acc, rfl, HE, HAL, HR, HO, HL⟩ := hrel
    obtain ⟨A9, c9, e9⟩ := Kd.R_slice HO.out
    subst e9
    by_cases hlt : i < n
    · have hb1 : decide ((i : Int) < (n : Int)) = true := decide_eq_true (by omega)
      obtain ⟨k, rfl⟩ : ∃ m, gk = m + 1 := ⟨gk - 1, by have := HE.out; omega⟩
      have HC := Aside0.mk (HS.out wr l1 b1 HL.out)
      obtain ⟨⟨⟨y, ok⟩, l2, b2⟩, hq⟩ : ∃ q, step l1 b1 = q := ⟨_, rfl⟩
      rw [hq] at HC
      have HQ := Aside0.mk hq
      clear hq
      go_wp2_with fail
      refine HC.out.mono ?_
      rintro e w2 ⟨rfl, hl2⟩
      have HO2 := Aside0.mk (R_off' HO.out HGW.out hl2.keep)
      have HL2 := Aside0.mk (HL.out.trans hl2 HL.out.len)
      clear hl2 HO HL HC
      cases ok with
      | false =>
        have HR3 := Aside0.mk ((takeN_no HQ.out (.inl rfl)).symm.trans HR.out)
        clear HQ HR
        go_wp2_with fail
        go_ret2
        rw [← HR3.out]
        exact ⟨_, rfl, Kd.R_nil _ _ _ _ _, HL2.out⟩
      | true =>
        go_wp2_with fail
        refine (bad_calls P w2 g l2 b2 HL2.out.rd).mono ?_
        rintro e w3 ⟨rfl, rfl⟩
        cases b2 with
        | true =>
          have HR3 := Aside0.mk ((takeN_no HQ.out (.inr rfl)).symm.trans HR.out)
          clear HQ HR
          go_wp2_with fail
          go_ret2
          rw [← HR3.out]
          exact ⟨_, rfl, Kd.R_nil _ _ _ _ _, HL2.out⟩
        | false =>
          have HR3 := Aside0.mk ((takeN_ok HQ.out rfl).symm.trans HR.out)
          clear HQ HR
          have hlen : acc.length ≤ 1000 := by have := HAL.out; omega
          go_wp2_with (first | ((with_reducible refine gate_builtin (b := .append) (xs := #[.tmp 35, .tmp 37]) rfl ?_); at_builtin; refine Kd.R_append Kd.string (w0 := w2) w.heap.size rfl (.tmp 35) (.tmp 37) 58 9 (.string ⟨#[]⟩) 16 rfl Try.underlying58 info_str rfl (by decide) (by omega) (.slice A9 acc.length c9) acc y [.string y] (fun _ => True) (fun _ => False) rfl rfl rfl (fun _ hk => hk.elim) (fun _ _ => trivial) HO2.out (Below.refl _ _) HL2.out.keep.1 (by omega) ?_; intro v w5 ho hb hg hat; have HO5 := Aside0.mk ho; have HL5 := Aside0.mk (HL2.out.grown HGW.out HPP.out hg (Kd.R_base HO2.out) (HL2.out.below.trans (hb.mono (Nat.le_of_lt HGW.out)))); clear ho hb hg hat))
          go_roundg k
          case measure => omega
          case rel => exact ⟨i + 1, l2, false, acc ++ [y], by go_num, ⟨by have := HE.out; omega⟩, ⟨by have := HAL.out; rw [List.length_append, List.length_singleton]; omega⟩, HR3, HO5, HL5⟩
    · have hb1 : decide ((i : Int) < (n : Int)) = false := decide_eq_false (by omega)
      have hk0 : gk = 0 := by have := HE.out; omega
      subst hk0
      go_wp2_with fail
      refine (bad_calls P wr g l1 b1 HL.out.rd).mono ?_
      rintro e w3 ⟨rfl, rfl⟩
      go_wp2
      go_ret2
      rw [← HR.out]
      exact ⟨_, rfl, HO.out, HL.out⟩
end Go.Proofs.Ytdpigeineephlaa.Prt
namespace Go.Proofs.Ytdpigeineephlaa.Prt
open Go.RowKit Go.Proofs.YtdpigeineephlaaW.PrintWords Go.Proofs.YtdpigeineephlaaW.PrintLast Go.Proofs.YtdpigeineephlaaW.PrintMore Go.Proofs.Ytdpigeineephlaa.Num Go.Proofs.Ytdpigeineephlaa.Nam
set_option linter.unusedVariables false
set_option linter.unusedSimpArgs false
theorem S_turnG {α : Type} {d : Kd α} {e : Nat} {w w1 : World} {base g t : Nat} {v : Value} {xs : List α} {cells : Array Value} (h : Kd.S d e w base (fun _ => True) v xs) (hb : w.heap[g]? = some (.cells cells t (0, 0))) (ht : ∀ q, q ∈ e :: d.E → q ≠ t) (hk : KeepBut w w1 g none) : Kd.S d e w1 base (fun k => k < w.heap.size) v xs :=
  Kd.S_mono (Kd.S_keep (Kd.S_bound (Kd.S_types h hb ht)) hk (fun k hk => hk.1.2)) (fun k hk => hk.2.2.1)
theorem R_setA {α : Type} {d : Kd α} {e N t E : Nat} {w : World} {v : Value} {l : List α} (h : Kd.R d e w N (fun _ => True) v l) (hb : ∃ cells, w.heap[E]? = some (.cells cells t (0, 0))) (ht : ∀ q, q ∈ e :: d.E → q ≠ t) (i : Nat) (u : Value) : Kd.R d e (w.setCell ⟨E, i, none⟩ u) N (fun _ => True) v l ∧ ∃ cells, (w.setCell ⟨E, i, none⟩ u).heap[E]? = some (.cells cells t (0, 0)) := by
  obtain ⟨cells, hb⟩ := hb
  exact ⟨R_set h hb ht i u, _, blk_set hb i u⟩
theorem R_setA2 {α : Type} {d : Kd α} {e N t E : Nat} {w : World} {v : Value} {l : List α} {cells : Array Value} (h : Kd.R d e w N (fun _ => True) v l) (hb : w.heap[E]? = some (.cells cells t (0, 0))) (ht : ∀ q, q ∈ e :: d.E → q ≠ t) (u0 u1 : Value) : Kd.R d e ((w.setCell ⟨E, 0, none⟩ u0).setCell ⟨E, 1, none⟩ u1) N (fun _ => True) v l :=
  (R_setA (R_setA h ⟨_, hb⟩ ht 0 u0).1 (R_setA h ⟨_, hb⟩ ht 0 u0).2 ht 1 u1).1
theorem R_setA3 {α : Type} {d : Kd α} {e N t E : Nat} {w : World} {v : Value} {l : List α} {cells : Array Value} (h : Kd.R d e w N (fun _ => True) v l) (hb : w.heap[E]? = some (.cells cells t (0, 0))) (ht : ∀ q, q ∈ e :: d.E → q ≠ t) (u0 u1 u2 : Value) : Kd.R d e (((w.setCell ⟨E, 0, none⟩ u0).setCell ⟨E, 1, none⟩ u1).setCell ⟨E, 2, none⟩ u2) N (fun _ => True) v l :=
  have a := R_setA h ⟨_, hb⟩ ht 0 u0
  have b := R_setA a.1 a.2 ht 1 u1
  (R_setA b.1 b.2 ht 2 u2).1
theorem info_cla : (Try.prog.info? 60).map (fun i => (i.zero, i.size, i.bytes)) = some (some (.agg #[.slice none 0 0, .slice none 0 0]), 2, 48) := by kernel_rfl
theorem takenCla_calls (step : Stp S60) (most : Int) (G : Nat) (q1 q2 : Value) (P : Nat → Prop) (w : World) (g : Nat) (l : List Int) (bad : Bool) (hI : Rd 71 P w g l bad) (hb : isBytes l) (hP : ∀ k, P k → k < w.heap.size) (hm0 : 0 ≤ most) (hm1 : most ≤ 1000)
    (hent : ∀ (xs : Array Value) (W : World), (callFunc G xs).run Try.prog W = .ok (.enter G xs) W)
    (hs : ∀ w1 l1 b1, Lv w w1 P g l.length (l1, b1) → Calls Try.prog G #[q1, q2] w1 fun e w2 => ∃ v0 v1, e = .returned (.tuple #[.agg #[v0, v1], .bool (step l1 b1).1.2]) ∧ Kd.string.R 9 w2 w1.heap.size (fun _ => True) v0 (step l1 b1).1.1.f0 ∧ Kd.string.R 9 w2 w1.heap.size (fun _ => True) v1 (step l1 b1).1.1.f1 ∧ Lv w1 w2 P g l1.length (step l1 b1).2)
    (r : (List S60 × Bool) × List Int × Bool) (hr : takeL step most l bad = r) :
    Calls Try.prog 41 #[.pointer (some ⟨g, 0, none⟩), .int .i64 most, .func (.func G) #[] #[q1, q2]] w fun e w' =>
      ∃ v, e = .returned (.tuple #[v, .bool r.1.2]) ∧ Kd.S k60 60 w' w.heap.size (fun _ => True) v r.1.1 ∧ Lv w w' P g l.length r.2 := by
  obtain ⟨x, hx⟩ : ∃ x, numOf l = x := ⟨_, rfl⟩
  have hri := numOf_i64 hb
  rw [hx] at hri
  obtain ⟨hr1, hr2⟩ := hri
  unfold takeL at hr
  rw [hx] at hr
  have HN := Aside0.mk (num_calls' x P w g l bad hI hb hx)
  have HAB := Aside0.mk (And.intro (aft_bytes hb) (aft_len l hb))
  have HS := Aside0.mk hs
  have HPP := Aside0.mk hP
  have HGW := Aside0.mk hI.lt
  have HR := Aside0.mk hr
  clear hI hb hs hx hP hr
  have hu60 := Try.underlying60
  by_cases hneg : x < 0
  · have hd : decide (x < 0) = true := decide_eq_true hneg
    go_enter Try.func41, Try.ntmps41
    go_wp2_with fail
    refine HN.out.mono ?_
    rintro e w1 ⟨rfl, hI1, hb1, hk1⟩
    have n1_ := Aside0.mk (Lv.mk (n := l.length) (q := (aft l, badOf l bad)) hI1 HAB.out.1 HAB.out.2 hb1 hk1)
    clear hI1 hb1 hk1
    go_wp2
    go_ret2
    rw [← HR.out, if_pos (.inl hneg)]
    exact ⟨_, rfl, Kd.S_nil _ _ _ _ _, n1_.out⟩
  have hd : decide (x < 0) = false := decide_eq_false hneg
  by_cases hbig : most < x
  · have hd2 : decide (most < x) = true := decide_eq_true hbig
    go_enter Try.func41, Try.ntmps41
    go_wp2_with fail
    refine HN.out.mono ?_
    rintro e w1 ⟨rfl, hI1, hb1, hk1⟩
    have n1_ := Aside0.mk (Lv.mk (n := l.length) (q := (aft l, badOf l bad)) hI1 HAB.out.1 HAB.out.2 hb1 hk1)
    clear hI1 hb1 hk1
    go_wp2
    go_ret2
    rw [← HR.out, if_pos (.inr hbig)]
    exact ⟨_, rfl, Kd.S_nil _ _ _ _ _, n1_.out⟩
  have hd2 : decide (most < x) = false := decide_eq_false hbig
  obtain ⟨n, rfl⟩ := Int.eq_ofNat_of_zero_le (Int.not_lt.1 hneg)
  have HR2 := Aside0.mk ((if_neg (by omega : ¬ ((n : Int) < 0 ∨ most < (n : Int)))).symm.trans HR.out)
  rw [Int.toNat_natCast] at HR2
  clear HR
  go_enter Try.func41, Try.ntmps41
  go_wp2_with fail
  refine HN.out.mono ?_
  rintro e w1 ⟨rfl, hI1, hb1, hk1⟩
  have n1_ := Aside0.mk (Lv.mk (n := l.length) (q := (aft l, badOf l bad)) hI1 HAB.out.1 HAB.out.2 hb1 hk1)
  clear hI1 hb1 hk1 HN
  go_wp2
  go_loopg [9, 22] n (fun k v9 v22 w' => ∃ (i : Nat) (l1 : List Int) (b1 : Bool) (acc : List S60), v22 = .int .i64 (i : Int) ∧ Aside0 (i + k = n) ∧ Aside0 (acc.length = i) ∧ Aside0 (takeN step k l1 b1 acc = r) ∧ Aside0 (Kd.S k60 60 w' w.heap.size (fun _ => True) v9 acc) ∧ Aside0 (Lv w w' P g l.length (l1, b1)))
  case atStart => exact ⟨0, _, _, [], rfl, ⟨by omega⟩, ⟨rfl⟩, HR2, ⟨Kd.S_nil _ _ _ _ _⟩, n1_⟩
  case round =>
    clear HR2 n1_
    obtain ⟨i, l1, b1, acc, rfl, HE, HAL, HR, HO, HL⟩ := hrel
    obtain ⟨A9, c9, e9⟩ := Kd.S_slice HO.out
    subst e9
    by_cases hlt : i < n
    · have hb1 : decide ((i : Int) < (n : Int)) = true := decide_eq_true (by omega)
      obtain ⟨k, rfl⟩ : ∃ m, gk = m + 1 := ⟨gk - 1, by have := HE.out; omega⟩
      have HC := Aside0.mk (HS.out wr l1 b1 HL.out)
      obtain ⟨⟨⟨y, ok⟩, l2, b2⟩, hq⟩ : ∃ q, step l1 b1 = q := ⟨_, rfl⟩
      rw [hq] at HC
      have HQ := Aside0.mk hq
      clear hq
      go_wp2_with fail
      refine HC.out.mono ?_
      rintro e w2 ⟨v0, v1, rfl, h0, h1, hl2⟩
      have HO2 : Aside0 (Kd.S k60 60 w2 w.heap.size (fun k => k < wr.heap.size) (.slice A9 acc.length c9) acc) := ⟨by
        obtain ⟨A', c', hblk, _⟩ := HL.out.rd
        exact S_turnG HO.out hblk (by decide) hl2.keep⟩
      have HL2 := Aside0.mk (HL.out.trans hl2 HL.out.len)
      have HSZ := Aside0.mk (And.intro hl2.keep.1 HL.out.keep.1)
      have H0 := Aside0.mk h0
      have H1 := Aside0.mk h1
      clear hl2 HO HL HC h0 h1
      obtain ⟨A0, c0, e0⟩ := Kd.R_slice H0.out
      subst e0
      obtain ⟨A1, c1, e1⟩ := Kd.R_slice H1.out
      subst e1
      go_upto_region 8 with (first | ((with_reducible refine gate_dst (N := 10) rfl ?_); (try (refine gate_guard (by rfl) ?_; dsimp only)); refine box_event ?hg (N := 10) ?hd (cs := #[.slice none 0 0, .slice none 0 0]) (t := 60) ?hr ?_; (case hd => rfl); (case hg => rfl); (case hr => first | (go_simp; done) | (go_simp; rfl)); intro B hg_ w3 hbox_ hb_; have HBX := Aside0.mk hbox_; have HBN := Aside0.mk hg_; have HBB := Aside0.mk hb_; clear hbox_ hg_ hb_; have hq0 := blk_cell HBX.out 0; have hf0 := blk_frozen HBX.out 0; have hq1 := blk_cell HBX.out 1; have hf1 := blk_frozen HBX.out 1))
      have HBG : Aside0 (wr.heap.size ≤ B ∧ w.heap.size ≤ B) := ⟨by have := HBN.out; have := HSZ.out.1; have := HSZ.out.2; omega⟩
      have n1_ := Aside0.mk (Kd.S_far (p := ⟨B, 1, none⟩) (Kd.S_far (p := ⟨B, 0, none⟩) (Kd.S_below HO2.out HBB.out) (fun k hk => by have := HBG.out.1; show k ≠ B; omega) (.slice A0 y.f0.length c0)) (fun k hk => by have := HBG.out.1; show k ≠ B; omega) (.slice A1 y.f1.length c1))
      have n4_ := Aside0.mk ((((HL2.out.up HBB.out).set HGW.out HPP.out HBG.out.2 0 (.slice A0 y.f0.length c0)).set HGW.out HPP.out HBG.out.2 1 (.slice A1 y.f1.length c1)))
      have n6_ := Aside0.mk ((blk_put (cs' := #[.slice A0 y.f0.length c0, .slice A1 y.f1.length c1]) (blk_put (cs' := #[.slice A0 y.f0.length c0, .slice none 0 0]) HBX.out 0 (.slice A0 y.f0.length c0) rfl) 1 (.slice A1 y.f1.length c1) rfl))
      have r0_ := Aside0.mk (R_setA2 (Kd.R_below H0.out HBB.out) HBX.out (by decide) (.slice A0 y.f0.length c0) (.slice A1 y.f1.length c1))
      have r1_ := Aside0.mk (R_setA2 (Kd.R_below H1.out HBB.out) HBX.out (by decide) (.slice A0 y.f0.length c0) (.slice A1 y.f1.length c1))
      clear H0 H1
      have HW3 := Aside0.mk (Nat.le_trans HSZ.out.1 HBB.out.size)
      clear HO2 HL2 HBX HBN HBB hq0 hf0 hq1 hf1
      generalize (w3.setCell ⟨B, 0, none⟩ (.slice A0 y.f0.length c0)).setCell ⟨B, 1, none⟩ (.slice A1 y.f1.length c1) = w4 at n1_ n4_ n6_ r0_ r1_ ⊢
      cases ok with
      | false =>
        have HR3 := Aside0.mk ((takeN_no HQ.out (.inl rfl)).symm.trans HR.out)
        clear HQ HR
        go_wp2_with fail
        go_ret2
        rw [← HR3.out]
        exact ⟨_, rfl, Kd.S_nil _ _ _ _ _, n4_.out⟩
      | true =>
        go_wp2_with fail
        refine (bad_calls P w4 g l2 b2 n4_.out.rd).mono ?_
        rintro e w5 ⟨rfl, rfl⟩
        cases b2 with
        | true =>
          have HR3 := Aside0.mk ((takeN_no HQ.out (.inr rfl)).symm.trans HR.out)
          clear HQ HR
          go_wp2_with fail
          go_ret2
          rw [← HR3.out]
          exact ⟨_, rfl, Kd.S_nil _ _ _ _ _, n4_.out⟩
        | false =>
          have HR3 := Aside0.mk ((takeN_ok HQ.out rfl).symm.trans HR.out)
          clear HQ HR
          have hlen : acc.length ≤ 1000 := by have := HAL.out; omega
          have hq0 := blk_cell n6_.out 0
          have hq1 := blk_cell n6_.out 1
          have HAP : Aside0 (∀ k, wr.heap.size ≤ k → True ∧ some k ≠ (Value.slice A9 acc.length c9).ownBlock) := ⟨fun k hk => ⟨trivial, fun e_ => by have h_ := (Kd.S_R n1_.out).1 k e_.symm; omega⟩⟩
          have HAQ : Aside0 (Kd.S k60 60 w4 w.heap.size (fun k => True ∧ ¬ wr.heap.size ≤ k) (.slice A9 acc.length c9) acc) := ⟨Kd.S_mono n1_.out (fun k hk => ⟨trivial, by omega⟩)⟩
          have HMK : Aside0 ((k60).M w4 w.heap.size (fun k => wr.heap.size ≤ k) y [.slice A0 y.f0.length c0, .slice A1 y.f1.length c1]) := ⟨k60_mkM _ _ _ y (Kd.R_lower (Kd.R_mono (Kd.R_bound r0_.out) (fun k hk => hk.2.1)) HSZ.out.2) (Kd.R_lower (Kd.R_mono (Kd.R_bound r1_.out) (fun k hk => hk.2.1)) HSZ.out.2)⟩
          go_wp2_with (first | ((with_reducible refine gate_builtin (b := .append) (xs := #[.tmp 35, .tmp 37]) rfl ?_); at_builtin; refine Kd.S_append k60 (w0 := w4) w.heap.size rfl (.tmp 35) (.tmp 37) 23 60 (.agg #[.slice none 0 0, .slice none 0 0]) 48 rfl Try.underlying23 info_cla rfl (by decide) (by omega) (.slice A9 acc.length c9) acc y [.slice A0 y.f0.length c0, .slice A1 y.f1.length c1] (fun _ => True) (fun k => wr.heap.size ≤ k) rfl rfl HMK.out HAP.out (fun _ _ => trivial) HAQ.out (Below.refl _ _) n4_.out.keep.1 (by omega) ?_; intro v w6 ho hb hg hat; have HO5 := Aside0.mk ho; have HL5 := Aside0.mk (n4_.out.grown HGW.out HPP.out hg (Kd.S_base n1_.out) (n4_.out.below.trans (hb.mono (Nat.le_of_lt HGW.out)))); clear ho hb hg hat))
          go_roundg k
          case measure => omega
          case rel => exact ⟨i + 1, l2, false, acc ++ [y], by go_num, ⟨by have := HE.out; omega⟩, ⟨by have := HAL.out; rw [List.length_append, List.length_singleton]; omega⟩, HR3, HO5, HL5⟩
    · have hb1 : decide ((i : Int) < (n : Int)) = false := decide_eq_false (by omega)
      have hk0 : gk = 0 := by have := HE.out; omega
      subst hk0
      go_wp2_with fail
      refine (bad_calls P wr g l1 b1 HL.out.rd).mono ?_
      rintro e w3 ⟨rfl, rfl⟩
      go_wp2
      go_ret2
      rw [← HR.out]
      exact ⟨_, rfl, HO.out, HL.out⟩
end Go.Proofs.Ytdpigeineephlaa.Prt
namespace Go.Proofs.Ytdpigeineephlaa.Prt
open Go.RowKit Go.Proofs.YtdpigeineephlaaW.PrintWords Go.Proofs.YtdpigeineephlaaW.PrintLast Go.Proofs.YtdpigeineephlaaW.PrintMore Go.Proofs.Ytdpigeineephlaa.Num Go.Proofs.Ytdpigeineephlaa.Nam
set_option linter.unusedVariables false
set_option linter.unusedSimpArgs false

theorem S_turnN {α : Type} {d : Kd α} {e : Nat} {w w1 : World} {base g t N : Nat} {v : Value} {xs : List α} {cells : Array Value} (h : Kd.S d e w base (fun k => k < N) v xs) (hb : w.heap[g]? = some (.cells cells t (0, 0))) (ht : ∀ q, q ∈ e :: d.E → q ≠ t) (hk : KeepBut w w1 g none) : Kd.S d e w1 base (fun k => k < N) v xs :=
  Kd.S_mono (Kd.S_keep (Kd.S_types h hb ht) hk (fun k hk => hk.2)) (fun k hk => hk.1)
set_option maxRecDepth 100000 in
theorem refQ_calls (P : Nat → Prop) (w : World) (g : Nat) (l : List Int) (bad : Bool) (hI : Rd 50 P w g l bad) (hb : isBytes l) (hP : ∀ k, P k → k < w.heap.size) (r : List S60 × Int × List Int × Bool) (hr : refQ l bad = r) :
    Calls Try.prog 22 #[.pointer (some ⟨g, 0, none⟩)] w fun e w' => ∃ v, e = .returned (.tuple #[.agg #[v], .int .i64 r.2.1]) ∧ Kd.S k60 60 w' w.heap.size (fun _ => True) v r.1 ∧ Lw w w' P g l.length r.2.2 := by
  obtain ⟨x, hx⟩ : ∃ x, numOf l = x := ⟨_, rfl⟩
  have hri := numOf_i64 hb
  rw [hx] at hri
  obtain ⟨hr1, hr2⟩ := hri
  unfold refQ at hr
  rw [hx] at hr
  have HAB := Aside0.mk (And.intro (aft_bytes hb) (aft_len l hb))
  have HFIT := Aside0.mk (fun i y hy => fitC_iff.2 (⟨fun s hs => Nat.le_trans (((refCs_left (b := badOf l bad) HAB.out.1 i).2.2 y hy).1 s hs) (Nat.le_trans HAB.out.2 hI.len), fun s hs => Nat.le_trans (((refCs_left (b := badOf l bad) HAB.out.1 i).2.2 y hy).2 s hs) (Nat.le_trans HAB.out.2 hI.len)⟩))
  have HPP := Aside0.mk hP
  have HGW := Aside0.mk hI.lt
  have HR := Aside0.mk hr
  have HX := Aside0.mk hx
  have HL0 := Aside0.mk (Lw.mk (n := l.length) (q := (l, bad)) hI hb (Nat.le_refl _) (Below.refl g w) (KeepBut.refl w g none))
  clear hI hb hx hP hr
  have hu25 := Try.underlying25
  have hu60 := Try.underlying60
  have hu50 := Try.underlying50
  go_enter Try.func22, Try.ntmps22
  go_upto_region 1 with (first | ((with_reducible refine gate_dst (N := 2) rfl ?_); (try (refine gate_guard (by rfl) ?_; dsimp only)); refine box_event ?hg (N := 2) ?hd (cs := #[.slice none 0 0]) (t := 25) ?hr ?_; (case hd => rfl); (case hg => rfl); (case hr => first | (go_simp; done) | (go_simp; rfl)); intro Q hg_ w1 hbox_ hb_; have HQ := Aside0.mk hbox_; have HQN := Aside0.mk hg_; have HQB := Aside0.mk hb_; clear hbox_ hg_ hb_))
  have HQW := Aside0.mk (show w.heap.size ≤ Q ∧ Q ≠ g by have h1 := HQN.out; have h2 := HGW.out; omega)
  have HL1 := Aside0.mk (HL0.out.up HQB.out)
  clear HL0 HQN HQB
  go_wp2_with fail
  refine (refNum_calls' x P w1 g l bad HL1.out.rd HL1.out.by_ HX.out).mono ?_
  rintro e w2 ⟨rfl, hI, hb, hk⟩
  have HL2 := Aside0.mk (HL1.out.trans (Lw.mk (n := l.length) (q := (aft l, badOf l bad)) hI HAB.out.1 HAB.out.2 hb hk) (Nat.le_refl _))
  have HQ2 := Aside0.mk (hk.blk HQ.out HQW.out.2 (by simp))
  clear hI hb hk HL1 HQ
  go_upto_region 3 with (first | ((with_reducible refine gate_dst (N := 5) rfl ?_); (try (refine gate_guard (by rfl) ?_; dsimp only)); refine box_event ?hg (N := 5) ?hd (cs := #[.slice none 0 0]) (t := 25) ?hr ?_; (case hd => rfl); (case hg => rfl); (case hr => first | (go_simp; done) | (go_simp; rfl)); intro E hg_ w3 hbox_ hb_; have HE := Aside0.mk hbox_; have HEN := Aside0.mk hg_; have HEB := Aside0.mk hb_; clear hbox_ hg_ hb_; have he0 := blk_cell HE.out 0; have hf0 := blk_frozen HE.out 0))
  have HEW := Aside0.mk (show w.heap.size ≤ E ∧ E ≠ g ∧ E ≠ Q by
    have h1 := HEN.out
    have h2 := HGW.out
    have h3 := HL2.out.keep.1
    have h4 := blk_lt HQ2.out
    omega)
  have n1_ := Aside0.mk ((HL2.out.up HEB.out).set HGW.out HPP.out HEW.out.1 0 (.slice none 0 0))
  have n2_ := Aside0.mk (blk_far (blk_below HQ2.out HEB.out) (Ne.symm HEW.out.2.2) (p := ⟨E, 0, none⟩) (.slice none 0 0))
  have n3_ := Aside0.mk (blk_put (cs' := #[.slice none 0 0]) HE.out 0 (.slice none 0 0) rfl)
  clear HL2 HQ2 HE HEN HEB he0 hf0
  generalize w3.setCell ⟨E, 0, none⟩ (.slice none 0 0) = w4 at n1_ n2_ n3_ ⊢
  go_wp2_with fail
  go_loopg [6] 6 (fun k v6 w' => ∃ (i : Nat) (v : Value), v6 = .int .i64 (i : Int) ∧ Aside0 (i + k = 6) ∧ Aside0 (i ≤ cnt x) ∧ Aside0 (Kd.S k60 60 w' w.heap.size (fun _ => True) v (refCs i (aft l) (badOf l bad)).1) ∧ Aside0 (Lw w w' P g l.length (refCs i (aft l) (badOf l bad)).2) ∧ Aside0 (w'.heap[E]? = some (.cells #[v] 25 (0, 0))) ∧ Aside0 (w'.heap[Q]? = some (.cells #[.slice none 0 0] 25 (0, 0))))
  case atStart => exact ⟨0, .slice none 0 0, rfl, ⟨by omega⟩, ⟨Nat.zero_le _⟩, ⟨Kd.S_nil _ _ _ _ _⟩, n1_, n3_, n2_⟩
  case round =>
    clear n1_ n2_ n3_
    obtain ⟨i, v, rfl, HK, HC, HS, HL, HE, HQ⟩ := hrel
    by_cases hgo : (i : Int) < x ∧ i ≤ 4
    · have d1 : decide ((i : Int) < x) = true := decide_eq_true hgo.1
      have d2 : decide ((i : Int) ≤ 4) = true := decide_eq_true (by omega)
      have HGO := Aside0.mk hgo
      have HLEN := Aside0.mk (refCs_len (aft l) (badOf l bad) i)
      obtain ⟨⟨acc, l1, b1⟩, hq⟩ : ∃ q, refCs i (aft l) (badOf l bad) = q := ⟨_, rfl⟩
      rw [hq] at HS HL HLEN
      have HQQ := Aside0.mk (show refCs (i + 1) (aft l) (badOf l bad) = (acc ++ [(refC l1 b1).1], (refC l1 b1).2) by rw [refCs, hq])
      have hlen : acc.length ≤ 1000 := by have h1 := HLEN.out; have h2 := hgo.2; simp only at h1; omega
      obtain ⟨A5, c5, e5⟩ := Kd.S_slice HS.out
      subst e5
      obtain ⟨⟨m0, l2, b2⟩, hq0⟩ : ∃ q, refT l1 b1 = q := ⟨_, rfl⟩
      obtain ⟨⟨m1, l3, b3⟩, hq1⟩ : ∃ q, refT l2 b2 = q := ⟨_, rfl⟩
      have HRC := Aside0.mk (show refC l1 b1 = (⟨m0, m1⟩, l3, b3) by unfold refC; rw [hq0]; simp only; rw [hq1])
      have HQ0 := Aside0.mk hq0
      have HQ1 := Aside0.mk hq1
      have HWR := Aside0.mk HL.out.keep.1
      clear hgo hq hq0 hq1 HLEN
      go_wp2_with fail
      refine (refTaken_calls P wr g l1 b1 HL.out.rd HL.out.by_ (fun k hk => Nat.lt_of_lt_of_le (HPP.out k hk) HWR.out) _ HQ0.out).mono ?_
      rintro e w5 ⟨v0, rfl, h0, hL⟩
      obtain ⟨A0, c0, e0⟩ := Kd.R_slice h0
      subst e0
      have HS5 : Aside0 (Kd.S k60 60 w5 w.heap.size (fun k => k < wr.heap.size) (.slice A5 acc.length c5) acc) := ⟨by
        obtain ⟨A', c', hblk, _⟩ := HL.out.rd
        exact S_turnG HS.out hblk (by decide) hL.keep⟩
      have H0 := Aside0.mk h0
      have HSZ := Aside0.mk hL.keep.1
      have HE5 := Aside0.mk (hL.keep.blk HE.out HEW.out.2.1 (by simp))
      have HQ5 := Aside0.mk (hL.keep.blk HQ.out HQW.out.2 (by simp))
      have HL5 := Aside0.mk (HL.out.trans hL HL.out.len)
      clear h0 hL HS HL HE HQ
      go_upto_region 7 with (first | ((with_reducible refine gate_dst (N := 7) rfl ?_); (try (refine gate_guard (by rfl) ?_; dsimp only)); refine box_event ?hg (N := 7) ?hd (cs := #[.slice none 0 0, .slice none 0 0]) (t := 60) ?hr ?_; (case hd => rfl); (case hg => rfl); (case hr => first | (go_simp; done) | (go_simp; rfl)); intro B hg_ w6 hbox_ hb_; have HB := Aside0.mk hbox_; have HBN := Aside0.mk hg_; have HBB := Aside0.mk hb_; clear hbox_ hg_ hb_; have hq0 := blk_cell HB.out 0; have hf0 := blk_frozen HB.out 0; have hq1 := blk_cell HB.out 1; have hf1 := blk_frozen HB.out 1))
      have HBG : Aside0 (wr.heap.size ≤ B ∧ w.heap.size ≤ B ∧ B ≠ g ∧ B ≠ E ∧ B ≠ Q) := ⟨by
        have h1 := HBN.out
        have h2 := HSZ.out
        have h3 := HWR.out
        have h4 := HGW.out
        have h5 := blk_lt HE5.out
        have h6 := blk_lt HQ5.out
        omega⟩
      have n1_ := Aside0.mk (Kd.S_far (p := ⟨B, 1, none⟩) (Kd.S_far (p := ⟨B, 0, none⟩) (Kd.S_below HS5.out HBB.out) (fun k hk => by have := HBG.out.1; show k ≠ B; omega) (.slice A0 m0.length c0)) (fun k hk => by have := HBG.out.1; show k ≠ B; omega) (.slice none 0 0))
      have n2_ := Aside0.mk (R_setA2 (Kd.R_below H0.out HBB.out) HB.out (by decide) (.slice A0 m0.length c0) (.slice none 0 0))
      have n3_ := Aside0.mk (((HL5.out.up HBB.out).set HGW.out HPP.out HBG.out.2.1 0 (.slice A0 m0.length c0)).set HGW.out HPP.out HBG.out.2.1 1 (.slice none 0 0))
      have n4_ := Aside0.mk (blk_far (blk_far (blk_below HE5.out HBB.out) (Ne.symm HBG.out.2.2.2.1) (p := ⟨B, 0, none⟩) (.slice A0 m0.length c0)) (Ne.symm HBG.out.2.2.2.1) (p := ⟨B, 1, none⟩) (.slice none 0 0))
      have n5_ := Aside0.mk (blk_far (blk_far (blk_below HQ5.out HBB.out) (Ne.symm HBG.out.2.2.2.2) (p := ⟨B, 0, none⟩) (.slice A0 m0.length c0)) (Ne.symm HBG.out.2.2.2.2) (p := ⟨B, 1, none⟩) (.slice none 0 0))
      have n6_ := Aside0.mk (blk_put (cs' := #[.slice A0 m0.length c0, .slice none 0 0]) (blk_put (cs' := #[.slice A0 m0.length c0, .slice none 0 0]) HB.out 0 (.slice A0 m0.length c0) rfl) 1 (.slice none 0 0) rfl)
      have HSZ6 := Aside0.mk (Nat.le_trans HSZ.out HBB.out.size)
      clear HS5 H0 HL5 HE5 HQ5 HB HBN HBB hq0 hq1 hf0 hf1
      generalize hw7 : (w6.setCell ⟨B, 0, none⟩ (.slice A0 m0.length c0)).setCell ⟨B, 1, none⟩ (.slice none 0 0) = w7 at n1_ n2_ n3_ n4_ n5_ n6_ ⊢
      have HSZ7 := Aside0.mk (show wr.heap.size ≤ w7.heap.size by rw [← hw7]; simpa using HSZ6.out)
      clear hw7 HSZ HSZ6
      go_wp2_with fail
      refine (refTaken_calls P w7 g l2 b2 n3_.out.rd n3_.out.by_ (fun k hk => Nat.lt_of_lt_of_le (HPP.out k hk) n3_.out.keep.1) _ HQ1.out).mono ?_
      rintro e w8 ⟨v1, rfl, h1, hL⟩
      obtain ⟨A1, c1, e1⟩ := Kd.R_slice h1
      subst e1
      have HS8 : Aside0 (Kd.S k60 60 w8 w.heap.size (fun k => k < wr.heap.size) (.slice A5 acc.length c5) acc) := ⟨by
        obtain ⟨A', c', hblk, _⟩ := n3_.out.rd
        exact S_turnN n1_.out hblk (by decide) hL.keep⟩
      have H1 := Aside0.mk (Kd.R_lower h1 HSZ7.out)
      have H0 := Aside0.mk (R_off' n2_.out (Nat.lt_of_lt_of_le HGW.out HWR.out) hL.keep)
      have HE8 := Aside0.mk (hL.keep.blk n4_.out HEW.out.2.1 (by simp))
      have HQ8 := Aside0.mk (hL.keep.blk n5_.out HQW.out.2 (by simp))
      have HB8 := Aside0.mk (hL.keep.blk n6_.out HBG.out.2.2.1 (by simp))
      have HL8 := Aside0.mk (n3_.out.trans hL n3_.out.len)
      clear h1 hL n1_ n2_ n3_ n4_ n5_ n6_
      have hq1 := blk_cell HB8.out 1
      have hf1 := blk_frozen HB8.out 1
      go_upto_region 8 with (fail)
      have n1_ := Aside0.mk (Kd.S_far (p := ⟨B, 1, none⟩) HS8.out (fun k hk => by have := HBG.out.1; show k ≠ B; omega) (.slice A1 m1.length c1))
      have n2_ := Aside0.mk (R_set H0.out HB8.out (by decide) 1 (.slice A1 m1.length c1))
      have n2b_ := Aside0.mk (R_set H1.out HB8.out (by decide) 1 (.slice A1 m1.length c1))
      have n3_ := Aside0.mk (HL8.out.set HGW.out HPP.out HBG.out.2.1 1 (.slice A1 m1.length c1))
      have n4_ := Aside0.mk (blk_far HE8.out (Ne.symm HBG.out.2.2.2.1) (p := ⟨B, 1, none⟩) (.slice A1 m1.length c1))
      have n5_ := Aside0.mk (blk_far HQ8.out (Ne.symm HBG.out.2.2.2.2) (p := ⟨B, 1, none⟩) (.slice A1 m1.length c1))
      have n6_ := Aside0.mk (blk_put (cs' := #[.slice A0 m0.length c0, .slice A1 m1.length c1]) HB8.out 1 (.slice A1 m1.length c1) rfl)
      clear HS8 H0 H1 HE8 HQ8 HB8 HL8 hq1 hf1
      generalize w8.setCell ⟨B, 1, none⟩ (.slice A1 m1.length c1) = w9 at n1_ n2_ n2b_ n3_ n4_ n5_ n6_ ⊢
      have he0 := blk_cell n4_.out 0
      have hfe := blk_frozen n4_.out 0
      have hq0 := blk_cell n6_.out 0
      have hq1 := blk_cell n6_.out 1
      have HAP : Aside0 (∀ k, wr.heap.size ≤ k → True ∧ some k ≠ (Value.slice A5 acc.length c5).ownBlock) := ⟨fun k hk => ⟨trivial, fun e_ => by have h_ := (Kd.S_R n1_.out).1 k e_.symm; omega⟩⟩
      have HAQ : Aside0 (Kd.S k60 60 w9 w.heap.size (fun k => True ∧ ¬ wr.heap.size ≤ k) (.slice A5 acc.length c5) acc) := ⟨Kd.S_mono n1_.out (fun k hk => ⟨trivial, by omega⟩)⟩
      have HMK : Aside0 ((k60).M w9 w.heap.size (fun k => wr.heap.size ≤ k) ⟨m0, m1⟩ [.slice A0 m0.length c0, .slice A1 m1.length c1]) := ⟨k60_mkM _ _ _ ⟨m0, m1⟩ (Kd.R_lower (Kd.R_mono (Kd.R_bound n2_.out) (fun k hk => hk.2.1)) HWR.out) (Kd.R_lower (Kd.R_mono (Kd.R_bound n2b_.out) (fun k hk => hk.2.1)) HWR.out)⟩
      go_upto_region 5 with (first | ((with_reducible refine gate_builtin (b := .append) (xs := #[.tmp 27, .tmp 29]) rfl ?_); at_builtin; refine Kd.S_append k60 (w0 := w9) w.heap.size rfl (.tmp 27) (.tmp 29) 23 60 (.agg #[.slice none 0 0, .slice none 0 0]) 48 rfl Try.underlying23 info_cla rfl (by decide) (by omega) (.slice A5 acc.length c5) acc ⟨m0, m1⟩ [.slice A0 m0.length c0, .slice A1 m1.length c1] (fun _ => True) (fun k => wr.heap.size ≤ k) rfl rfl HMK.out HAP.out (fun _ _ => trivial) HAQ.out (Below.refl _ _) n3_.out.keep.1 (by omega) ?_; intro v wa ho hb hg hat; have HO := Aside0.mk ho; have HG := Aside0.mk hg; have HBA := Aside0.mk hb; clear ho hb hg hat; have HEA := Aside0.mk (blk_grown n4_.out HG.out (Kd.S_ne n1_.out n4_.out (by decide))); obtain ⟨Av, cv, ev_⟩ := Kd.S_slice HO.out; subst ev_; clear he0 hfe hq0 hq1; have he0 := blk_cell HEA.out 0; have hfe := blk_frozen HEA.out 0))
      have u1_ := Aside0.mk (by have h := S_set HO.out HEA.out (by decide) 0 (.slice Av (acc.length + 1) cv); rw [List.length_append, List.length_singleton] at h; exact h)
      have u2_ := Aside0.mk ((n3_.out.grown HGW.out HPP.out HG.out (Kd.S_base n1_.out) (n3_.out.below.trans (HBA.out.mono (Nat.le_of_lt HGW.out)))).set HGW.out HPP.out HEW.out.1 0 (.slice Av (acc.length + 1) cv))
      have u3_ := Aside0.mk (blk_put (cs' := #[.slice Av (acc.length + 1) cv]) HEA.out 0 (.slice Av (acc.length + 1) cv) rfl)
      have u4_ := Aside0.mk (blk_far (blk_grown n5_.out HG.out (Kd.S_ne n1_.out n5_.out (by decide))) (Ne.symm HEW.out.2.2) (p := ⟨E, 0, none⟩) (.slice Av (acc.length + 1) cv))
      clear he0 hfe n1_ n2_ n2b_ n3_ n4_ n5_ n6_ HO HG HBA HEA HAP HAQ HMK
      generalize wa.setCell ⟨E, 0, none⟩ (.slice Av (acc.length + 1) cv) = wb at u1_ u2_ u3_ u4_ ⊢
      have hi4 := HGO.out.2
      go_wp2_with fail
      go_roundg (6 - (i + 1))
      case measure => have := HK.out; omega
      case rel => exact ⟨i + 1, _, by go_num, ⟨by have := HK.out; have := HGO.out.2; omega⟩, ⟨by have h := HGO.out; unfold cnt; omega⟩, ⟨by rw [HQQ.out, HRC.out]; exact u1_.out⟩, ⟨by rw [HQQ.out, HRC.out]; exact u2_.out⟩, u3_, u4_⟩
    · by_cases hin : (i : Int) < x
      · have d1 : decide ((i : Int) < x) = true := decide_eq_true hin
        have d2 : decide ((i : Int) ≤ 4) = false := decide_eq_false (by omega)
        have hi : i = cnt x := by have h := HC.out; unfold cnt at h ⊢; omega
        have HI := Aside0.mk hi
        clear hgo hin hi
        obtain ⟨⟨acc, l1, b1⟩, hq⟩ : ∃ q, refCs i (aft l) (badOf l bad) = q := ⟨_, rfl⟩
        rw [hq] at HS HL
        have HR2 : Aside0 ((if x < 0 ∨ b1 = true ∨ mayQ acc ≠ 0 then ([], 2, (l1, b1)) else (acc, 0, (l1, b1))) = r) := ⟨by have h := HR.out; rw [← HI.out, hq] at h; exact h⟩
        have HFT := Aside0.mk (show registrarref06_MayG.f acc = some (mayQ acc) from if_pos (List.all_eq_true.2 fun y hy => HFIT.out i y (by rw [hq]; exact hy)))
        clear hq
        obtain ⟨A5, c5, e5⟩ := Kd.S_slice HS.out
        subst e5
        by_cases hneg : x < 0
        · have d3 : decide (x < 0) = true := decide_eq_true hneg
          have HS2 := Aside0.mk ((if_pos (.inl hneg)).symm.trans HR2.out)
          have hq0 := blk_cell HQ.out 0
          have hf0 := blk_frozen HQ.out 0
          go_wp2_with fail
          have HE9 := blk_put (cs' := #[.slice none 0 0]) HQ.out 0 (.slice none 0 0) rfl
          refine bodyPost_ret (results_ct rfl _ _ Q 25 _ (0, 0) _ rfl HE9 Try.underlying25 rfl (by kernel_rfl)) rfl ?_
          rw [← HS2.out]
          exact ⟨.slice none 0 0, rfl, Kd.S_nil _ _ _ _ _, HL.out.set HGW.out HPP.out HQW.out.1 0 _⟩
        have d3 : decide (x < 0) = false := decide_eq_false hneg
        obtain ⟨A', c', hblk, _⟩ : ∃ A' c', wr.heap[g]? = some (.cells #[.slice A' l1.length c', .bool b1] 50 (0, 0)) ∧ True := by
          obtain ⟨A', c', hblk, _⟩ := HL.out.rd
          exact ⟨A', c', hblk, trivial⟩
        have hc1 := blk_cell hblk 1
        clear hblk
        cases b1 with
        | true =>
          have HS2 := Aside0.mk ((if_pos (.inr (.inl rfl))).symm.trans HR2.out)
          have hq0 := blk_cell HQ.out 0
          have hf0 := blk_frozen HQ.out 0
          go_wp2_with fail
          have HE9 := blk_put (cs' := #[.slice none 0 0]) HQ.out 0 (.slice none 0 0) rfl
          refine bodyPost_ret (results_ct rfl _ _ Q 25 _ (0, 0) _ rfl HE9 Try.underlying25 rfl (by kernel_rfl)) rfl ?_
          rw [← HS2.out]
          exact ⟨.slice none 0 0, rfl, Kd.S_nil _ _ _ _ _, HL.out.set HGW.out HPP.out HQW.out.1 0 _⟩
        | false =>
          obtain ⟨-, hcl, hC⟩ := Kd.S_reads' HS.out
          have HM := Aside0.mk (registrarref06_MayG.calls A5 c5 acc (mayQ acc) wr hC hcl HFT.out)
          have he0 := blk_cell HE.out 0
          clear hC hcl
          go_wp2_with fail
          refine HM.out.mono ?_
          rintro e w8 ⟨rfl, hb8⟩
          have HS8 := Aside0.mk (Kd.S_below HS.out hb8)
          have HQ8 := Aside0.mk (blk_below HQ.out hb8)
          have HL8 := Aside0.mk (HL.out.up hb8)
          have HE8 := Aside0.mk (blk_below HE.out hb8)
          clear hb8 HS HQ HL HE HM he0 hc1
          by_cases h0 : mayQ acc = 0
          · have hbn : (mayQ acc != 0) = false := bne_eq_false_iff_eq.mpr h0
            have HS2 := Aside0.mk ((if_neg (by rintro (h | h | h); (· omega); (· cases h); exact h h0)).symm.trans HR2.out)
            clear h0
            have hq0 := blk_cell HQ8.out 0
            have hf0 := blk_frozen HQ8.out 0
            have he0 := blk_cell HE8.out 0
            go_wp2_with fail
            have HE9 := blk_put (cs' := #[.slice A5 acc.length c5]) HQ8.out 0 (.slice A5 acc.length c5) rfl
            refine bodyPost_ret (results_ct rfl _ _ Q 25 _ (0, 0) _ rfl HE9 Try.underlying25 rfl (by kernel_rfl)) rfl ?_
            rw [← HS2.out]
            exact ⟨.slice A5 acc.length c5, rfl, S_set HS8.out HQ8.out (by decide) 0 _, HL8.out.set HGW.out HPP.out HQW.out.1 0 _⟩
          · have hbn : (mayQ acc != 0) = true := bne_iff_ne.mpr h0
            have HS2 := Aside0.mk ((if_pos (.inr (.inr h0))).symm.trans HR2.out)
            clear h0
            have hq0 := blk_cell HQ8.out 0
            have hf0 := blk_frozen HQ8.out 0
            go_wp2_with fail
            have HE9 := blk_put (cs' := #[.slice none 0 0]) HQ8.out 0 (.slice none 0 0) rfl
            refine bodyPost_ret (results_ct rfl _ _ Q 25 _ (0, 0) _ rfl HE9 Try.underlying25 rfl (by kernel_rfl)) rfl ?_
            rw [← HS2.out]
            exact ⟨.slice none 0 0, rfl, Kd.S_nil _ _ _ _ _, HL8.out.set HGW.out HPP.out HQW.out.1 0 _⟩
      · have d1 : decide ((i : Int) < x) = false := decide_eq_false hin
        have hi : i = cnt x := by have h := HC.out; unfold cnt at h ⊢; omega
        have HI := Aside0.mk hi
        clear hgo hin hi
        obtain ⟨⟨acc, l1, b1⟩, hq⟩ : ∃ q, refCs i (aft l) (badOf l bad) = q := ⟨_, rfl⟩
        rw [hq] at HS HL
        have HR2 : Aside0 ((if x < 0 ∨ b1 = true ∨ mayQ acc ≠ 0 then ([], 2, (l1, b1)) else (acc, 0, (l1, b1))) = r) := ⟨by have h := HR.out; rw [← HI.out, hq] at h; exact h⟩
        have HFT := Aside0.mk (show registrarref06_MayG.f acc = some (mayQ acc) from if_pos (List.all_eq_true.2 fun y hy => HFIT.out i y (by rw [hq]; exact hy)))
        clear hq
        obtain ⟨A5, c5, e5⟩ := Kd.S_slice HS.out
        subst e5
        by_cases hneg : x < 0
        · have d3 : decide (x < 0) = true := decide_eq_true hneg
          have HS2 := Aside0.mk ((if_pos (.inl hneg)).symm.trans HR2.out)
          have hq0 := blk_cell HQ.out 0
          have hf0 := blk_frozen HQ.out 0
          go_wp2_with fail
          have HE9 := blk_put (cs' := #[.slice none 0 0]) HQ.out 0 (.slice none 0 0) rfl
          refine bodyPost_ret (results_ct rfl _ _ Q 25 _ (0, 0) _ rfl HE9 Try.underlying25 rfl (by kernel_rfl)) rfl ?_
          rw [← HS2.out]
          exact ⟨.slice none 0 0, rfl, Kd.S_nil _ _ _ _ _, HL.out.set HGW.out HPP.out HQW.out.1 0 _⟩
        have d3 : decide (x < 0) = false := decide_eq_false hneg
        obtain ⟨A', c', hblk, _⟩ : ∃ A' c', wr.heap[g]? = some (.cells #[.slice A' l1.length c', .bool b1] 50 (0, 0)) ∧ True := by
          obtain ⟨A', c', hblk, _⟩ := HL.out.rd
          exact ⟨A', c', hblk, trivial⟩
        have hc1 := blk_cell hblk 1
        clear hblk
        cases b1 with
        | true =>
          have HS2 := Aside0.mk ((if_pos (.inr (.inl rfl))).symm.trans HR2.out)
          have hq0 := blk_cell HQ.out 0
          have hf0 := blk_frozen HQ.out 0
          go_wp2_with fail
          have HE9 := blk_put (cs' := #[.slice none 0 0]) HQ.out 0 (.slice none 0 0) rfl
          refine bodyPost_ret (results_ct rfl _ _ Q 25 _ (0, 0) _ rfl HE9 Try.underlying25 rfl (by kernel_rfl)) rfl ?_
          rw [← HS2.out]
          exact ⟨.slice none 0 0, rfl, Kd.S_nil _ _ _ _ _, HL.out.set HGW.out HPP.out HQW.out.1 0 _⟩
        | false =>
          obtain ⟨-, hcl, hC⟩ := Kd.S_reads' HS.out
          have HM := Aside0.mk (registrarref06_MayG.calls A5 c5 acc (mayQ acc) wr hC hcl HFT.out)
          have he0 := blk_cell HE.out 0
          clear hC hcl
          go_wp2_with fail
          refine HM.out.mono ?_
          rintro e w8 ⟨rfl, hb8⟩
          have HS8 := Aside0.mk (Kd.S_below HS.out hb8)
          have HQ8 := Aside0.mk (blk_below HQ.out hb8)
          have HL8 := Aside0.mk (HL.out.up hb8)
          have HE8 := Aside0.mk (blk_below HE.out hb8)
          clear hb8 HS HQ HL HE HM he0 hc1
          by_cases h0 : mayQ acc = 0
          · have hbn : (mayQ acc != 0) = false := bne_eq_false_iff_eq.mpr h0
            have HS2 := Aside0.mk ((if_neg (by rintro (h | h | h); (· omega); (· cases h); exact h h0)).symm.trans HR2.out)
            clear h0
            have hq0 := blk_cell HQ8.out 0
            have hf0 := blk_frozen HQ8.out 0
            have he0 := blk_cell HE8.out 0
            go_wp2_with fail
            have HE9 := blk_put (cs' := #[.slice A5 acc.length c5]) HQ8.out 0 (.slice A5 acc.length c5) rfl
            refine bodyPost_ret (results_ct rfl _ _ Q 25 _ (0, 0) _ rfl HE9 Try.underlying25 rfl (by kernel_rfl)) rfl ?_
            rw [← HS2.out]
            exact ⟨.slice A5 acc.length c5, rfl, S_set HS8.out HQ8.out (by decide) 0 _, HL8.out.set HGW.out HPP.out HQW.out.1 0 _⟩
          · have hbn : (mayQ acc != 0) = true := bne_iff_ne.mpr h0
            have HS2 := Aside0.mk ((if_pos (.inr (.inr h0))).symm.trans HR2.out)
            clear h0
            have hq0 := blk_cell HQ8.out 0
            have hf0 := blk_frozen HQ8.out 0
            go_wp2_with fail
            have HE9 := blk_put (cs' := #[.slice none 0 0]) HQ8.out 0 (.slice none 0 0) rfl
            refine bodyPost_ret (results_ct rfl _ _ Q 25 _ (0, 0) _ rfl HE9 Try.underlying25 rfl (by kernel_rfl)) rfl ?_
            rw [← HS2.out]
            exact ⟨.slice none 0 0, rfl, Kd.S_nil _ _ _ _ _, HL8.out.set HGW.out HPP.out HQW.out.1 0 _⟩
end Go.Proofs.Ytdpigeineephlaa.Prt
namespace Go.Proofs.Ytdpigeineephlaa.Prt
open Go.RowKit Go.Proofs.YtdpigeineephlaaW.PrintWords Go.Proofs.YtdpigeineephlaaW.PrintLast Go.Proofs.YtdpigeineephlaaW.PrintMore Go.Proofs.Ytdpigeineephlaa.Num Go.Proofs.Ytdpigeineephlaa.Nam
set_option linter.unusedVariables false
set_option linter.unusedSimpArgs false
theorem info_def : (Try.prog.info? 36).map (fun i => (i.zero, i.size, i.bytes)) = some (some (.agg #[.int .i64 0, .string ⟨#[]⟩, .slice none 0 0]), 3, 48) := by kernel_rfl
theorem takenDef_calls (step : Stp S36) (most : Int) (G : Nat) (q1 : Value) (P : Nat → Prop) (w : World) (g : Nat) (l : List Int) (bad : Bool) (hI : Rd 71 P w g l bad) (hb : isBytes l) (hP : ∀ k, P k → k < w.heap.size) (hm0 : 0 ≤ most) (hm1 : most ≤ 1000)
    (hent : ∀ (xs : Array Value) (W : World), (callFunc G xs).run Try.prog W = .ok (.enter G xs) W)
    (hs : ∀ w1 l1 b1, Lv w w1 P g l.length (l1, b1) → Calls Try.prog G #[q1] w1 fun e w2 => ∃ v2, e = .returned (.tuple #[.agg #[.int .i64 (step l1 b1).1.1.f0, .string (step l1 b1).1.1.f1, v2], .bool (step l1 b1).1.2]) ∧ k60.R 60 w2 w1.heap.size (fun _ => True) v2 (step l1 b1).1.1.f2.f0 ∧ Lv w1 w2 P g l1.length (step l1 b1).2)
    (r : (List S36 × Bool) × List Int × Bool) (hr : takeL step most l bad = r) :
    Calls Try.prog 46 #[.pointer (some ⟨g, 0, none⟩), .int .i64 most, .func (.func G) #[] #[q1]] w fun e w' =>
      ∃ v, e = .returned (.tuple #[v, .bool r.1.2]) ∧ Kd.S k36 36 w' w.heap.size (fun _ => True) v r.1.1 ∧ Lv w w' P g l.length r.2 := by
  obtain ⟨x, hx⟩ : ∃ x, numOf l = x := ⟨_, rfl⟩
  have hri := numOf_i64 hb
  rw [hx] at hri
  obtain ⟨hr1, hr2⟩ := hri
  unfold takeL at hr
  rw [hx] at hr
  have HN := Aside0.mk (num_calls' x P w g l bad hI hb hx)
  have HAB := Aside0.mk (And.intro (aft_bytes hb) (aft_len l hb))
  have HS := Aside0.mk hs
  have HPP := Aside0.mk hP
  have HGW := Aside0.mk hI.lt
  have HR := Aside0.mk hr
  clear hI hb hs hx hP hr
  have hu36 := Try.underlying36
  by_cases hneg : x < 0
  · have hd : decide (x < 0) = true := decide_eq_true hneg
    go_enter Try.func46, Try.ntmps46
    go_wp2_with fail
    refine HN.out.mono ?_
    rintro e w1 ⟨rfl, hI1, hb1, hk1⟩
    have n1_ := Aside0.mk (Lv.mk (n := l.length) (q := (aft l, badOf l bad)) hI1 HAB.out.1 HAB.out.2 hb1 hk1)
    clear hI1 hb1 hk1
    go_wp2
    go_ret2
    rw [← HR.out, if_pos (.inl hneg)]
    exact ⟨_, rfl, Kd.S_nil _ _ _ _ _, n1_.out⟩
  have hd : decide (x < 0) = false := decide_eq_false hneg
  by_cases hbig : most < x
  · have hd2 : decide (most < x) = true := decide_eq_true hbig
    go_enter Try.func46, Try.ntmps46
    go_wp2_with fail
    refine HN.out.mono ?_
    rintro e w1 ⟨rfl, hI1, hb1, hk1⟩
    have n1_ := Aside0.mk (Lv.mk (n := l.length) (q := (aft l, badOf l bad)) hI1 HAB.out.1 HAB.out.2 hb1 hk1)
    clear hI1 hb1 hk1
    go_wp2
    go_ret2
    rw [← HR.out, if_pos (.inr hbig)]
    exact ⟨_, rfl, Kd.S_nil _ _ _ _ _, n1_.out⟩
  have hd2 : decide (most < x) = false := decide_eq_false hbig
  obtain ⟨n, rfl⟩ := Int.eq_ofNat_of_zero_le (Int.not_lt.1 hneg)
  have HR2 := Aside0.mk ((if_neg (by omega : ¬ ((n : Int) < 0 ∨ most < (n : Int)))).symm.trans HR.out)
  rw [Int.toNat_natCast] at HR2
  clear HR
  go_enter Try.func46, Try.ntmps46
  go_wp2_with fail
  refine HN.out.mono ?_
  rintro e w1 ⟨rfl, hI1, hb1, hk1⟩
  have n1_ := Aside0.mk (Lv.mk (n := l.length) (q := (aft l, badOf l bad)) hI1 HAB.out.1 HAB.out.2 hb1 hk1)
  clear hI1 hb1 hk1 HN
  go_wp2
  go_loopg [9, 22] n (fun k v9 v22 w' => ∃ (i : Nat) (l1 : List Int) (b1 : Bool) (acc : List S36), v22 = .int .i64 (i : Int) ∧ Aside0 (i + k = n) ∧ Aside0 (acc.length = i) ∧ Aside0 (takeN step k l1 b1 acc = r) ∧ Aside0 (Kd.S k36 36 w' w.heap.size (fun _ => True) v9 acc) ∧ Aside0 (Lv w w' P g l.length (l1, b1)))
  case atStart => exact ⟨0, _, _, [], rfl, ⟨by omega⟩, ⟨rfl⟩, HR2, ⟨Kd.S_nil _ _ _ _ _⟩, n1_⟩
  case round =>
    clear HR2 n1_
    obtain ⟨i, l1, b1, acc, rfl, HE, HAL, HR, HO, HL⟩ := hrel
    obtain ⟨A9, c9, e9⟩ := Kd.S_slice HO.out
    subst e9
    by_cases hlt : i < n
    · have hb1 : decide ((i : Int) < (n : Int)) = true := decide_eq_true (by omega)
      obtain ⟨k, rfl⟩ : ∃ m, gk = m + 1 := ⟨gk - 1, by have := HE.out; omega⟩
      have HC := Aside0.mk (HS.out wr l1 b1 HL.out)
      obtain ⟨⟨⟨y, ok⟩, l2, b2⟩, hq⟩ : ∃ q, step l1 b1 = q := ⟨_, rfl⟩
      rw [hq] at HC
      have HQ := Aside0.mk hq
      clear hq
      go_wp2_with fail
      refine HC.out.mono ?_
      rintro e w2 ⟨v2, rfl, h2, hl2⟩
      have HO2 : Aside0 (Kd.S k36 36 w2 w.heap.size (fun k => k < wr.heap.size) (.slice A9 acc.length c9) acc) := ⟨by
        obtain ⟨A', c', hblk, _⟩ := HL.out.rd
        exact S_turnG HO.out hblk (by decide) hl2.keep⟩
      have HL2 := Aside0.mk (HL.out.trans hl2 HL.out.len)
      have HSZ := Aside0.mk (And.intro hl2.keep.1 HL.out.keep.1)
      have H2 := Aside0.mk h2
      clear hl2 HO HL HC h2
      obtain ⟨A2, c2, e2⟩ := Kd.R_slice H2.out
      subst e2
      go_upto_region 8 with (first | ((with_reducible refine gate_dst (N := 10) rfl ?_); (try (refine gate_guard (by rfl) ?_; dsimp only)); refine box_event ?hg (N := 10) ?hd (cs := #[.int .i64 0, .string (⟨#[]⟩ : ByteArray), .slice none 0 0]) (t := 36) ?hr ?_; (case hd => rfl); (case hg => rfl); (case hr => first | (go_simp; done) | (go_simp; rfl)); intro B hg_ w3 hbox_ hb_; have HBX := Aside0.mk hbox_; have HBN := Aside0.mk hg_; have HBB := Aside0.mk hb_; clear hbox_ hg_ hb_; have hq0 := blk_cell HBX.out 0; have hf0 := blk_frozen HBX.out 0; have hq1 := blk_cell HBX.out 1; have hf1 := blk_frozen HBX.out 1; have hq2 := blk_cell HBX.out 2; have hf2 := blk_frozen HBX.out 2))
      have HBG : Aside0 (wr.heap.size ≤ B ∧ w.heap.size ≤ B) := ⟨by have := HBN.out; have := HSZ.out.1; have := HSZ.out.2; omega⟩
      have n1_ := Aside0.mk (Kd.S_far (p := ⟨B, 2, none⟩) (Kd.S_far (p := ⟨B, 1, none⟩) (Kd.S_far (p := ⟨B, 0, none⟩) (Kd.S_below HO2.out HBB.out) (fun k hk => by have := HBG.out.1; show k ≠ B; omega) (.int .i64 y.f0)) (fun k hk => by have := HBG.out.1; show k ≠ B; omega) (.string y.f1)) (fun k hk => by have := HBG.out.1; show k ≠ B; omega) (.slice A2 y.f2.f0.length c2))
      have n4_ := Aside0.mk (((((HL2.out.up HBB.out).set HGW.out HPP.out HBG.out.2 0 (.int .i64 y.f0)).set HGW.out HPP.out HBG.out.2 1 (.string y.f1)).set HGW.out HPP.out HBG.out.2 2 (.slice A2 y.f2.f0.length c2)))
      have n6_ := Aside0.mk ((blk_put (cs' := #[.int .i64 y.f0, .string y.f1, .slice A2 y.f2.f0.length c2]) (blk_put (cs' := #[.int .i64 y.f0, .string y.f1, .slice none 0 0]) (blk_put (cs' := #[.int .i64 y.f0, .string (⟨#[]⟩ : ByteArray), .slice none 0 0]) HBX.out 0 (.int .i64 y.f0) rfl) 1 (.string y.f1) rfl) 2 (.slice A2 y.f2.f0.length c2) rfl))
      have r2_ := Aside0.mk (R_setA3 (Kd.R_below H2.out HBB.out) HBX.out (by decide) (.int .i64 y.f0) (.string y.f1) (.slice A2 y.f2.f0.length c2))
      clear H2
      have HW3 := Aside0.mk (Nat.le_trans HSZ.out.1 HBB.out.size)
      clear HO2 HL2 HBX HBN HBB hq0 hf0 hq1 hf1 hq2 hf2
      generalize ((w3.setCell ⟨B, 0, none⟩ (.int .i64 y.f0)).setCell ⟨B, 1, none⟩ (.string y.f1)).setCell ⟨B, 2, none⟩ (.slice A2 y.f2.f0.length c2) = w4 at n1_ n4_ n6_ r2_ ⊢
      cases ok with
      | false =>
        have HR3 := Aside0.mk ((takeN_no HQ.out (.inl rfl)).symm.trans HR.out)
        clear HQ HR
        go_wp2_with fail
        go_ret2
        rw [← HR3.out]
        exact ⟨_, rfl, Kd.S_nil _ _ _ _ _, n4_.out⟩
      | true =>
        go_wp2_with fail
        refine (bad_calls P w4 g l2 b2 n4_.out.rd).mono ?_
        rintro e w5 ⟨rfl, rfl⟩
        cases b2 with
        | true =>
          have HR3 := Aside0.mk ((takeN_no HQ.out (.inr rfl)).symm.trans HR.out)
          clear HQ HR
          go_wp2_with fail
          go_ret2
          rw [← HR3.out]
          exact ⟨_, rfl, Kd.S_nil _ _ _ _ _, n4_.out⟩
        | false =>
          have HR3 := Aside0.mk ((takeN_ok HQ.out rfl).symm.trans HR.out)
          clear HQ HR
          have hlen : acc.length ≤ 1000 := by have := HAL.out; omega
          have hq0 := blk_cell n6_.out 0
          have hq1 := blk_cell n6_.out 1
          have hq2 := blk_cell n6_.out 2
          have HAP : Aside0 (∀ k, wr.heap.size ≤ k → True ∧ some k ≠ (Value.slice A9 acc.length c9).ownBlock) := ⟨fun k hk => ⟨trivial, fun e_ => by have h_ := (Kd.S_R n1_.out).1 k e_.symm; omega⟩⟩
          have HAQ : Aside0 (Kd.S k36 36 w4 w.heap.size (fun k => True ∧ ¬ wr.heap.size ≤ k) (.slice A9 acc.length c9) acc) := ⟨Kd.S_mono n1_.out (fun k hk => ⟨trivial, by omega⟩)⟩
          have HMK : Aside0 ((k36).M w4 w.heap.size (fun k => wr.heap.size ≤ k) y [.int .i64 y.f0, .string y.f1, .slice A2 y.f2.f0.length c2]) := ⟨k36_mkM _ _ _ y (Kd.R_lower (Kd.R_mono (Kd.R_bound r2_.out) (fun k hk => hk.2.1)) HSZ.out.2)⟩
          go_wp2_with (first | ((with_reducible refine gate_builtin (b := .append) (xs := #[.tmp 35, .tmp 37]) rfl ?_); at_builtin; refine Kd.S_append k36 (w0 := w4) w.heap.size rfl (.tmp 35) (.tmp 37) 26 36 (.agg #[.int .i64 0, .string (⟨#[]⟩ : ByteArray), .slice none 0 0]) 48 rfl Try.underlying26 info_def rfl (by decide) (by omega) (.slice A9 acc.length c9) acc y [.int .i64 y.f0, .string y.f1, .slice A2 y.f2.f0.length c2] (fun _ => True) (fun k => wr.heap.size ≤ k) rfl rfl HMK.out HAP.out (fun _ _ => trivial) HAQ.out (Below.refl _ _) n4_.out.keep.1 (by omega) ?_; intro v w6 ho hb hg hat; have HO5 := Aside0.mk ho; have HL5 := Aside0.mk (n4_.out.grown HGW.out HPP.out hg (Kd.S_base n1_.out) (n4_.out.below.trans (hb.mono (Nat.le_of_lt HGW.out)))); clear ho hb hg hat))
          go_roundg k
          case measure => omega
          case rel => exact ⟨i + 1, l2, false, acc ++ [y], by go_num, ⟨by have := HE.out; omega⟩, ⟨by have := HAL.out; rw [List.length_append, List.length_singleton]; omega⟩, HR3, HO5, HL5⟩
    · have hb1 : decide ((i : Int) < (n : Int)) = false := decide_eq_false (by omega)
      have hk0 : gk = 0 := by have := HE.out; omega
      subst hk0
      go_wp2_with fail
      refine (bad_calls P wr g l1 b1 HL.out.rd).mono ?_
      rintro e w3 ⟨rfl, rfl⟩
      go_wp2
      go_ret2
      rw [← HR.out]
      exact ⟨_, rfl, HO.out, HL.out⟩
end Go.Proofs.Ytdpigeineephlaa.Prt
namespace Go.Proofs.Ytdpigeineephlaa.Prt
open Go.RowKit Go.Proofs.YtdpigeineephlaaW.PrintWords Go.Proofs.YtdpigeineephlaaW.PrintLast Go.Proofs.YtdpigeineephlaaW.PrintMore Go.Proofs.Ytdpigeineephlaa.Num Go.Proofs.Ytdpigeineephlaa.Nam
set_option linter.unusedVariables false
set_option linter.unusedSimpArgs false

set_option maxRecDepth 100000 in
theorem refTakeDs_calls (A0 : Option Addr) (c0 : Nat) (l0 : List Int) (w : World) (hr0 : Kd.C (Kd.int .u8) w A0 l0.length l0) (hc0 : l0.length ≤ c0) (hby : isBytes l0) (hlen : l0.length ≤ 1000000000000) (r1 : List S36) (r2 : Int) (h : takeDs l0 = (r1, r2)) :
    Calls Try.prog 24 #[.slice A0 l0.length c0] w fun e w' => ∃ v0_ : Value, e = .returned (.tuple #[v0_, .int .i64 r2]) ∧ Kd.S k36 36 w' w.heap.size (fun _ => True) v0_ r1 ∧ Below w.heap.size w w' := by
  obtain ⟨x, hx⟩ : ∃ x, numOf l0 = x := ⟨_, rfl⟩
  have hri := numOf_i64 hby
  rw [hx] at hri
  obtain ⟨hr1, hr2⟩ := hri
  rw [← refDs_same, hx] at h
  obtain ⟨R, hR⟩ : ∃ R, refDs (cnt x) (aft l0) (badOf l0 false) [] = R := ⟨_, rfl⟩
  rw [hR] at h
  have HRR := Aside0.mk hR
  have HH := Aside0.mk h
  have HX := Aside0.mk hx
  have HR0 := Aside0.mk hr0
  have HC0 := Aside0.mk hc0
  have HBY := Aside0.mk hby
  have HAB := Aside0.mk (And.intro (aft_bytes hby) (aft_len l0 hby))
  clear hr0 hc0 hby h hx hR
  have hu36 := Try.underlying36
  have hu25 := Try.underlying25
  have hu50 := Try.underlying50
  go_enter Try.func24, Try.ntmps24
  have HL := Aside0.mk (Below.refl w.heap.size w)
  go_upto_region 2 with (first
    | ((with_reducible refine gate_dst (N := 13) rfl ?_); refine Kd.R_lit (Kd.int .u8) (w0 := w) w.heap.size 5 ?hg (N := 13) ?hd (xs := []) (inner := []) (ok := fun _ => True) (okp := fun _ => True) ?hr ?hp (fun _ hk => hk) trivial ?hB ?hS (by simp) ?_; (case hd => rfl); (case hg => rfl); (case hr => first | (go_simp; done) | (go_simp; rfl)); (case hp => exact (Reps.none _ _)); (case hB => exact (by repeat (first | (with_reducible first | exact HL.out | apply below_alloc | apply pw_below_drewN | apply below_drew1) | exact HL.out))); (case hS => exact (below_size (by repeat (first | (with_reducible first | exact HL.out | apply below_alloc | apply pw_below_drewN | apply below_drew1) | exact HL.out)))); intro v2 w2 ho hb hg hat; have n0_ := Aside0.mk (hb); have n1_ := Aside0.mk (ho); clear HL; have HL := n0_; have HO2 := n1_; clear n0_ n1_; clear ho hb hg hat)
    | ((with_reducible refine gate_builtin (b := .append) (xs := #[.tmp 13, .tmp 14]) rfl ?_); at_builtin; refine Kd.R_append_rows (Kd.int .u8) (w0 := w) w.heap.size rfl (.tmp 13) (.tmp 14) 22 5 (.int .u8 0) 1 rfl Try.underlying22 info_u8 rfl (by decide) (by omega) v2 [] l0 _ _ _ (fun _ => True) (fun _ => False) rfl rfl ?aO ?aR (fun _ _ h => h) (fun _ h => h.elim) ?aF ?aB ?aS ?aL ?_; (case aR => exact (by repeat (first | exact (Kd.C_below HR0.out HL.out) | (with_reducible refine Kd.C_alloc ?_ _) | (with_reducible refine Kd.C_drewN ?_ _) | (with_reducible refine Kd.C_drew ?_)))); (case aB => exact (by repeat (first | (with_reducible first | exact HL.out | apply below_alloc | apply pw_below_drewN | apply below_drew1) | exact HL.out))); (case aF => exact (fun _ _ => trivial)); (case aO => exact (by (with_reducible repeat (first | apply Kd.R_alloc | apply Kd.R_drewN | apply Kd.R_drew)); exact HO2.out)); (case aS => exact (below_size (by repeat (first | (with_reducible first | exact HL.out | apply below_alloc | apply pw_below_drewN | apply below_drew1) | exact HL.out)))); (case aL => simp only [List.length_nil]; omega); intro v3 w3 ho hb hg hat; have n0_ := Aside0.mk (hb); have n1_ := Aside0.mk (ho); clear HL; clear HO2; have HL := n0_; have HO3 := n1_; clear n0_ n1_; clear ho hb hg hat; obtain ⟨A4, c4, e4, hc4, hC4⟩ := Kd.R_reads HO3.out; subst e4; have HC4 := Aside0.mk (by rw [List.nil_append] at hC4; exact hC4 : Kd.C (Kd.int .u8) w3 A4 l0.length l0); have HK4 := Aside0.mk (by rw [List.nil_append] at hc4; exact hc4 : l0.length ≤ c4); clear hC4 hc4; try rw [List.nil_append])
    | ((with_reducible refine gate_dst (N := 17) rfl ?_); (try (refine gate_guard (by rfl) ?_; dsimp only)); refine box_event ?hg (N := 17) ?hd (cs := #[.slice A4 l0.length c4, .bool false]) (t := 50) ?hr ?_; (case hd => rfl); (case hg => rfl); (case hr => first | (go_simp; done) | (go_simp; rfl)); intro g hg_ w4 hbox_ hb_; have HBX := Aside0.mk hbox_; have HG2 := Aside0.mk hg_; have HBB := Aside0.mk hb_; clear hbox_ hg_ hb_))
  have HB4 := Aside0.mk (below_step ((by repeat (first | (with_reducible first | exact HL.out | apply below_alloc | apply pw_below_drewN | apply below_drew1) | exact HL.out)) : Below w.heap.size w w3) HBB.out)
  have HI4 : Aside0 (Rd 50 (fun k => k < g) w4 g l0 false) := ⟨⟨A4, c4, HBX.out, HK4.out, Kd.C_below HC4.out HBB.out, fun ad e hn => by
    have h2 : ad.block < w3.heap.size := Kd.C_lt (e ▸ HC4.out) hn (by decide)
    have h3 : g = w3.heap.size := HG2.out
    show ad.block < g
    omega, Nat.lt_irrefl g⟩⟩
  have HWG := Aside0.mk (show w.heap.size ≤ g by
    have h2 := ((by repeat (first | (with_reducible first | exact HL.out | apply below_alloc | apply pw_below_drewN | apply below_drew1) | exact HL.out)) : Below w.heap.size w w3).size
    have h3 := HG2.out
    omega)
  have HGW := Aside0.mk HI4.out.lt
  have HPP : Aside0 (∀ k, k < g → k < w4.heap.size) := ⟨fun k hk => Nat.lt_trans hk HGW.out⟩
  have HL4 := Aside0.mk (Lw.mk (n := l0.length) (q := (l0, false)) HI4.out HBY.out (Nat.le_refl _) (Below.refl g w4) (KeepBut.refl w4 g none))
  clear HL HO3 HC4 HK4 HBX HBB HG2 HI4
  go_wp2_with fail
  refine (refNum_calls' x _ w4 g l0 false HL4.out.rd HL4.out.by_ HX.out).mono ?_
  rintro e w5 ⟨rfl, hI, hb, hk⟩
  have HL5 := Aside0.mk (HL4.out.trans (Lw.mk (n := l0.length) (q := (aft l0, badOf l0 false)) hI HAB.out.1 HAB.out.2 hb hk) (Nat.le_refl _))
  have HB := Aside0.mk (Below.refl w5.heap.size w5)
  clear hI hb hk HL4
  go_upto_region 4 with (first | ((with_reducible refine gate_dst (N := 20) rfl ?_); refine Kd.S_lit k36 (w0 := w5) w5.heap.size 36 ?hg (N := 20) ?hd (xs := []) (inner := []) (ok := fun _ => True) (okp := fun _ => True) ?hr ?hp (fun _ hk => hk) trivial ?hB ?hS (by simp) ?_; (case hd => rfl); (case hg => rfl); (case hr => first | (go_simp; done) | (go_simp; rfl)); (case hp => exact (Reps.none _ _)); (case hB => exact (by repeat (first | (with_reducible first | exact HB.out | apply below_alloc | apply pw_below_drewN | apply below_drew1) | exact HB.out))); (case hS => exact (below_size (by repeat (first | (with_reducible first | exact HB.out | apply below_alloc | apply pw_below_drewN | apply below_drew1) | exact HB.out)))); intro v6 w6 ho hb hg hat; have n0_ := Aside0.mk (hb); have n1_ := Aside0.mk (ho); clear HB; have HB := n0_; have HO6 := n1_; clear n0_ n1_; clear ho hb hg hat))
  have n1_ := Aside0.mk (HL5.out.up HB.out)
  have n2_ := Aside0.mk (Kd.S_lower HO6.out HL5.out.keep.1)
  clear HL5 HO6 HB
  obtain ⟨⟨ll, lb⟩, hlb⟩ : ∃ q, (aft l0, badOf l0 false) = q := ⟨_, rfl⟩
  rw [hlb] at n1_
  have HRR2 : Aside0 (refDs (cnt x) ll lb [] = R) := ⟨by have h := HRR.out; rw [show aft l0 = ll from congrArg Prod.fst hlb, show badOf l0 false = lb from congrArg Prod.snd hlb] at h; exact h⟩
  clear hlb HRR
  go_wp2_with fail
  go_loopg [6, 7] 6 (fun k v6 v7 w' => ∃ (i : Nat) (l1 : List Int) (b1 : Bool) (acc : List S36), v7 = .int .i64 (i : Int) ∧ Aside0 (i + k = 6) ∧ Aside0 (acc.length = i ∧ i ≤ cnt x ∧ ∀ y ∈ acc, fitD y = true) ∧ Aside0 (refDs (cnt x - i) l1 b1 acc = R) ∧ Aside0 (Kd.S k36 36 w' w4.heap.size (fun _ => True) v6 acc) ∧ Aside0 (Lw w4 w' (fun k => k < g) g l0.length (l1, b1)))
  case atStart => exact ⟨0, ll, lb, [], rfl, ⟨by omega⟩, ⟨rfl, Nat.zero_le _, fun y hy => by simp at hy⟩, HRR2, n2_, n1_⟩
  case round =>
    clear n1_ n2_ HRR2
    obtain ⟨i, l1, b1, acc, rfl, HK, HC, HR, HS, HL⟩ := hrel
    obtain ⟨A6, c6, e6⟩ := Kd.S_slice HS.out
    subst e6
    by_cases hgo : (i : Int) < x ∧ i ≤ 4
    · have d1 : decide ((i : Int) < x) = true := decide_eq_true hgo.1
      have d2 : decide ((i : Int) ≤ 4) = true := decide_eq_true (by omega)
      have HGO := Aside0.mk hgo
      have hlen6 : acc.length ≤ 1000 := by have h1 := HC.out.1; have h2 := hgo.2; omega
      obtain ⟨kk, hkk⟩ : ∃ kk, numOf l1 = kk := ⟨_, rfl⟩
      obtain ⟨s, hs⟩ : ∃ s, textOf (aft l1) = s := ⟨_, rfl⟩
      obtain ⟨⟨m, ce, l3, b3⟩, hq⟩ : ∃ q, refQ (aftT (aft l1)) (badT (aft l1) (badOf l1 b1)) = q := ⟨_, rfl⟩
      have HKK := Aside0.mk hkk
      have HSS := Aside0.mk hs
      have HQQ := Aside0.mk hq
      have HY := Aside0.mk (show isBytes (aft l1) ∧ (aft l1).length ≤ l1.length ∧ isBytes (aftT (aft l1)) ∧ (aftT (aft l1)).length ≤ (aft l1).length from ⟨aft_bytes HL.out.by_, aft_len l1 HL.out.by_, aftT_bytes (aft_bytes HL.out.by_), aftT_len _ (aft_bytes HL.out.by_)⟩)
      have HSZS := Aside0.mk (show s.size ≤ 9223372036854775807 from by rw [← hs]; exact Nat.le_trans (textOf_size _ HY.out.1) (Nat.le_trans HY.out.2.1 HL.out.rd.len))
      have HRN : Aside0 (R = if ce ≠ 0 then none else refDs (cnt x - (i + 1)) l3 b3 (acc ++ [⟨kk, s, ⟨m⟩⟩])) := ⟨by
        have h := HR.out
        rw [show cnt x - i = (cnt x - (i + 1)) + 1 by have h2 := hgo; unfold cnt; omega, refDs, hq, hkk, hs] at h
        exact h.symm⟩
      have HWR := Aside0.mk HL.out.keep.1
      clear hgo hkk hs hq HR
      go_wp2_with fail
      refine (refNum_calls' kk _ wr g l1 b1 HL.out.rd HL.out.by_ HKK.out).mono ?_
      rintro e w5 ⟨rfl, hI, hb, hk⟩
      have HS5 : Aside0 (Kd.S k36 36 w5 w4.heap.size (fun k => k < wr.heap.size) (.slice A6 acc.length c6) acc) := ⟨by
        obtain ⟨A', c', hblk, _⟩ := HL.out.rd
        exact S_turnG HS.out hblk (by decide) hk⟩
      have HSZ := Aside0.mk hk.1
      have HL5 := Aside0.mk (HL.out.trans (Lw.mk (n := l1.length) (q := (aft l1, badOf l1 b1)) hI HY.out.1 HY.out.2.1 hb hk) HL.out.len)
      clear hI hb hk HS HL
      go_upto_region 8 with (first | ((with_reducible refine gate_dst (N := 8) rfl ?_); (try (refine gate_guard (by rfl) ?_; dsimp only)); refine box_event ?hg (N := 8) ?hd (cs := #[.int .i64 0, .string (⟨#[]⟩ : ByteArray), .slice none 0 0]) (t := 36) ?hr ?_; (case hd => rfl); (case hg => rfl); (case hr => first | (go_simp; done) | (go_simp; rfl)); intro B hg_ w6 hbox_ hb_; have HB := Aside0.mk hbox_; have HBN := Aside0.mk hg_; have HBB := Aside0.mk hb_; clear hbox_ hg_ hb_; have hq0 := blk_cell HB.out 0; have hf0 := blk_frozen HB.out 0; have hq1 := blk_cell HB.out 1; have hf1 := blk_frozen HB.out 1; have hq2 := blk_cell HB.out 2; have hf2 := blk_frozen HB.out 2))
      have HBG : Aside0 (wr.heap.size ≤ B ∧ w4.heap.size ≤ B ∧ B ≠ g) := ⟨by
        have h1 := HBN.out
        have h2 := HSZ.out
        have h3 := HWR.out
        have h4 := HGW.out
        omega⟩
      have n1_ := Aside0.mk (Kd.S_far (p := ⟨B, 2, none⟩) (Kd.S_far (p := ⟨B, 1, none⟩) (Kd.S_far (p := ⟨B, 0, none⟩) (Kd.S_below HS5.out HBB.out) (fun k hk => by have := HBG.out.1; show k ≠ B; omega) (.int .i64 kk)) (fun k hk => by have := HBG.out.1; show k ≠ B; omega) (.string (⟨#[]⟩ : ByteArray))) (fun k hk => by have := HBG.out.1; show k ≠ B; omega) (.slice none 0 0))
      have n3_ := Aside0.mk (((HL5.out.up HBB.out).set HGW.out HPP.out HBG.out.2.1 0 (.int .i64 kk)).set HGW.out HPP.out HBG.out.2.1 1 (.string (⟨#[]⟩ : ByteArray)) |>.set HGW.out HPP.out HBG.out.2.1 2 (.slice none 0 0))
      have n6_ := Aside0.mk (blk_put (cs' := #[.int .i64 kk, .string (⟨#[]⟩ : ByteArray), .slice none 0 0]) (blk_put (cs' := #[.int .i64 kk, .string (⟨#[]⟩ : ByteArray), .slice none 0 0]) (blk_put (cs' := #[.int .i64 kk, .string (⟨#[]⟩ : ByteArray), .slice none 0 0]) HB.out 0 (.int .i64 kk) rfl) 1 (.string (⟨#[]⟩ : ByteArray)) rfl) 2 (.slice none 0 0) rfl)
      have HSZ6 := Aside0.mk (Nat.le_trans HSZ.out HBB.out.size)
      clear HS5 HL5 HB HBN HBB hq0 hq1 hq2 hf0 hf1 hf2
      generalize hw7 : ((w6.setCell ⟨B, 0, none⟩ (.int .i64 kk)).setCell ⟨B, 1, none⟩ (.string (⟨#[]⟩ : ByteArray))).setCell ⟨B, 2, none⟩ (.slice none 0 0) = w7 at n1_ n3_ n6_ ⊢
      have HSZ7 := Aside0.mk (show wr.heap.size ≤ w7.heap.size by rw [← hw7]; simpa using HSZ6.out)
      clear hw7 HSZ HSZ6
      have HTX := Aside0.mk (refText_calls _ w7 g (aft l1) (badOf l1 b1) n3_.out.rd n3_.out.by_)
      rw [HSS.out] at HTX
      go_wp2_with fail
      refine HTX.out.mono ?_
      rintro e w8 ⟨rfl, hI, hb, hk⟩
      have HS8 : Aside0 (Kd.S k36 36 w8 w4.heap.size (fun k => k < wr.heap.size) (.slice A6 acc.length c6) acc) := ⟨by
        obtain ⟨A', c', hblk, _⟩ := n3_.out.rd
        exact S_turnN n1_.out hblk (by decide) hk⟩
      have HB8 := Aside0.mk (hk.blk n6_.out HBG.out.2.2 (by simp))
      have HSZ8 := Aside0.mk (Nat.le_trans HSZ7.out hk.1)
      have HL8 := Aside0.mk (n3_.out.trans (Lw.mk (n := (aft l1).length) (q := (aftT (aft l1), badT (aft l1) (badOf l1 b1))) hI HY.out.2.2.1 HY.out.2.2.2 hb hk) n3_.out.len)
      clear hI hb hk n1_ n3_ n6_ HTX HSZ7
      have hq1 := blk_cell HB8.out 1
      have hf1 := blk_frozen HB8.out 1
      go_upto_region 9 with (fail)
      have n1_ := Aside0.mk (Kd.S_far (p := ⟨B, 1, none⟩) HS8.out (fun k hk => by have := HBG.out.1; show k ≠ B; omega) (.string s))
      have n3_ := Aside0.mk (HL8.out.set HGW.out HPP.out HBG.out.2.1 1 (.string s))
      have n6_ := Aside0.mk (blk_put (cs' := #[.int .i64 kk, .string s, .slice none 0 0]) HB8.out 1 (.string s) rfl)
      clear HS8 HB8 HL8 hq1 hf1
      generalize hw9 : w8.setCell ⟨B, 1, none⟩ (.string s) = w9 at n1_ n3_ n6_ ⊢
      have HSZ9 := Aside0.mk (show wr.heap.size ≤ w9.heap.size by rw [← hw9]; simpa using HSZ8.out)
      clear hw9 HSZ8
      have HRQ := Aside0.mk (refQ_calls _ w9 g (aftT (aft l1)) (badT (aft l1) (badOf l1 b1)) n3_.out.rd n3_.out.by_ (fun k hk => Nat.lt_of_lt_of_le (HPP.out k hk) n3_.out.keep.1) _ HQQ.out)
      go_wp2_with fail
      refine HRQ.out.mono ?_
      rintro e wa ⟨vq, rfl, hM, hL⟩
      obtain ⟨Aq, cq, eq_⟩ := Kd.S_slice hM
      subst eq_
      have HSa : Aside0 (Kd.S k36 36 wa w4.heap.size (fun k => k < wr.heap.size) (.slice A6 acc.length c6) acc) := ⟨by
        obtain ⟨A', c', hblk, _⟩ := n3_.out.rd
        exact S_turnN n1_.out hblk (by decide) hL.keep⟩
      have HM := Aside0.mk (Kd.S_lower hM HSZ9.out)
      have HBa := Aside0.mk (hL.keep.blk n6_.out HBG.out.2.2 (by simp))
      have HSZa := Aside0.mk (Nat.le_trans HSZ9.out hL.keep.1)
      have HLa := Aside0.mk (n3_.out.trans hL n3_.out.len)
      clear hM hL n1_ n3_ n6_ HRQ HSZ9
      go_upto_region 10 with (first | ((with_reducible refine gate_dst (N := 9) rfl ?_); (try (refine gate_guard (by rfl) ?_; dsimp only)); refine box_event ?hg (N := 9) ?hd (cs := #[.slice none 0 0]) (t := 25) ?hr ?_; (case hd => rfl); (case hg => rfl); (case hr => first | (go_simp; done) | (go_simp; rfl)); intro E hg_ wb hbox_ hb_; have HE := Aside0.mk hbox_; have HEN := Aside0.mk hg_; have HEB := Aside0.mk hb_; clear hbox_ hg_ hb_; have he0 := blk_cell HE.out 0; have hf0 := blk_frozen HE.out 0))
      have HEG : Aside0 (wr.heap.size ≤ E ∧ w4.heap.size ≤ E ∧ E ≠ B) := ⟨by
        have h1 := HEN.out
        have h2 := HSZa.out
        have h3 := HWR.out
        have h4 := blk_lt HBa.out
        omega⟩
      have n1_ := Aside0.mk (Kd.S_far (p := ⟨E, 0, none⟩) (Kd.S_below HSa.out HEB.out) (fun k hk => by have := HEG.out.1; show k ≠ E; omega) (.slice Aq m.length cq))
      have n2_ := Aside0.mk (S_set (Kd.S_below HM.out HEB.out) HE.out (by decide) 0 (.slice Aq m.length cq))
      have n3_ := Aside0.mk ((HLa.out.up HEB.out).set HGW.out HPP.out HEG.out.2.1 0 (.slice Aq m.length cq))
      have n6_ := Aside0.mk (blk_far (blk_below HBa.out HEB.out) (Ne.symm HEG.out.2.2) (p := ⟨E, 0, none⟩) (.slice Aq m.length cq))
      have n7_ := Aside0.mk (blk_put (cs' := #[.slice Aq m.length cq]) HE.out 0 (.slice Aq m.length cq) rfl)
      clear HSa HM HBa HLa HSZa HE HEN HEB he0 hf0
      generalize wb.setCell ⟨E, 0, none⟩ (.slice Aq m.length cq) = wc at n1_ n2_ n3_ n6_ n7_ ⊢
      by_cases hce : ce = 0
      · have hbn : (ce != 0) = false := bne_eq_false_iff_eq.mpr hce
        have HCE := Aside0.mk hce
        have HRN2 := Aside0.mk (HRN.out.trans (if_neg (by simpa using hce)))
        have HOK := Aside0.mk (refQ_good HY.out.2.2.1 (by rw [HQQ.out, hce] : refQ (aftT (aft l1)) (badT (aft l1) (badOf l1 b1)) = (m, 0, l3, b3))).2.2.1
        clear hce HRN
        have he0 := blk_cell n7_.out 0
        have hq2 := blk_cell n6_.out 2
        have hf2 := blk_frozen n6_.out 2
        go_upto_region 13 with (fail)
        have u1_ := Aside0.mk (Kd.S_far (p := ⟨B, 2, none⟩) n1_.out (fun k hk => by have := HBG.out.1; show k ≠ B; omega) (.slice Aq m.length cq))
        have u2_ := Aside0.mk (S_set n2_.out n6_.out (by decide) 2 (.slice Aq m.length cq))
        have u3_ := Aside0.mk (n3_.out.set HGW.out HPP.out HBG.out.2.1 2 (.slice Aq m.length cq))
        have u6_ := Aside0.mk (blk_put (cs' := #[.int .i64 kk, .string s, .slice Aq m.length cq]) n6_.out 2 (.slice Aq m.length cq) rfl)
        clear n1_ n2_ n3_ n6_ n7_ he0 hq2 hf2
        generalize wc.setCell ⟨B, 2, none⟩ (.slice Aq m.length cq) = wd at u1_ u2_ u3_ u6_ ⊢
        have hq0 := blk_cell u6_.out 0
        have hq1 := blk_cell u6_.out 1
        have hq2 := blk_cell u6_.out 2
        have hi4 := HGO.out.2
        have HAP : Aside0 (∀ k, wr.heap.size ≤ k → True ∧ some k ≠ (Value.slice A6 acc.length c6).ownBlock) := ⟨fun k hk => ⟨trivial, fun e_ => by have h_ := (Kd.S_R u1_.out).1 k e_.symm; omega⟩⟩
        have HAQ : Aside0 (Kd.S k36 36 wd w4.heap.size (fun k => True ∧ ¬ wr.heap.size ≤ k) (.slice A6 acc.length c6) acc) := ⟨Kd.S_mono u1_.out (fun k hk => ⟨trivial, by omega⟩)⟩
        have HMK : Aside0 ((k36).M wd w4.heap.size (fun k => wr.heap.size ≤ k) ⟨kk, s, ⟨m⟩⟩ [.int .i64 kk, .string s, .slice Aq m.length cq]) := ⟨k36_mkM _ _ _ ⟨kk, s, ⟨m⟩⟩ (Kd.R_lower (Kd.R_mono (Kd.R_bound (Kd.S_R u2_.out)) (fun k hk => hk.2.1)) HWR.out)⟩
        go_wp2_with (first | ((with_reducible refine gate_builtin (b := .append) (xs := #[.tmp 45, .tmp 47]) rfl ?_); at_builtin; refine Kd.S_append k36 (w0 := wd) w4.heap.size rfl (.tmp 45) (.tmp 47) 26 36 (.agg #[.int .i64 0, .string ⟨#[]⟩, .slice none 0 0]) 48 rfl Try.underlying26 info_def rfl (by decide) (by omega) (.slice A6 acc.length c6) acc ⟨kk, s, ⟨m⟩⟩ [.int .i64 kk, .string s, .slice Aq m.length cq] (fun _ => True) (fun k => wr.heap.size ≤ k) rfl rfl HMK.out HAP.out (fun _ _ => trivial) HAQ.out (Below.refl _ _) u3_.out.keep.1 (by omega) ?_; intro v we ho hb hg hat; have HO5 := Aside0.mk ho; have HL5 := Aside0.mk (u3_.out.grown HGW.out HPP.out hg (Kd.S_base u1_.out) (u3_.out.below.trans (hb.mono (Nat.le_of_lt HGW.out)))); clear ho hb hg hat))
        go_roundg (6 - (i + 1))
        case measure => have := HK.out; omega
        case rel => exact ⟨i + 1, l3, b3, acc ++ [⟨kk, s, ⟨m⟩⟩], by go_num, ⟨by have := HK.out; omega⟩, ⟨by rw [List.length_append, List.length_singleton, HC.out.1], by have h := HGO.out; unfold cnt; omega, fun y hy => by
          rcases List.mem_append.1 hy with hy | hy
          · exact HC.out.2.2 y hy
          · rw [List.mem_singleton.1 hy]; exact fitD_iff.2 ⟨HOK.out.fit, HSZS.out⟩⟩, ⟨HRN2.out.symm⟩, HO5, HL5⟩
      · have hbn : (ce != 0) = true := bne_iff_ne.mpr hce
        have HRN2 := Aside0.mk (HRN.out.trans (if_pos hce))
        clear hce HRN
        go_wp2_with fail
        go_ret2
        have h := HH.out
        rw [HRN2.out] at h
        obtain ⟨rfl, rfl⟩ := Prod.mk.inj (h : (([] : List S36), (2 : Int)) = (r1, r2))
        exact ⟨_, rfl, Kd.S_nil _ _ _ _ _, HB4.out.trans (n3_.out.below.mono HWG.out)⟩
    · by_cases hin : (i : Int) < x
      · have d1 : decide ((i : Int) < x) = true := decide_eq_true hin
        have d2 : decide ((i : Int) ≤ 4) = false := decide_eq_false (by omega)
        have HI := Aside0.mk (show i = cnt x by have h := HC.out.2.1; unfold cnt at h ⊢; omega)
        clear hgo hin
        obtain ⟨⟨p, pe⟩, hp⟩ : ∃ q, putDs acc = q := ⟨_, rfl⟩
        have HST : Aside0 ((if pe ≠ 0 ∨ p ≠ l0 then ([], 2) else (acc, 0)) = (r1, r2)) := ⟨by
          have h := HH.out
          have h2 := HR.out
          rw [HI.out, Nat.sub_self] at h2
          rw [← h2] at h
          have h3 : (if (putDs acc).2 ≠ 0 ∨ (putDs acc).1 ≠ l0 then ([], 2) else (acc, 0)) = (r1, r2) := h
          rw [hp] at h3
          exact h3⟩
        have HFIT := Aside0.mk (show registrarref07_PutDefsG.f acc = some (p, pe) by rw [← hp]; exact if_pos (List.all_eq_true.2 HC.out.2.2))
        have HPB : Aside0 (isBytes p) := ⟨by
          have := congrArg (fun z => z.1) hp
          simp only at this
          rw [← this]
          unfold putDs
          split
          · intro c hc; simp at hc
          · split
            · intro c hc; simp at hc
            · exact encDs_bytes _⟩
        obtain ⟨-, hcl, hC⟩ := Kd.S_reads' HS.out
        have HM := Aside0.mk (registrarref07_PutDefsG.calls A6 c6 acc p pe wr hC hcl HFIT.out)
        have HBW := Aside0.mk (HB4.out.trans (HL.out.below.mono HWG.out))
        clear hC hcl hp
        go_wp2_with fail
        refine HM.out.mono ?_
        rintro e w9 ⟨vp, rfl, hR, hb⟩
        have HS9 := Aside0.mk (Kd.S_lower (Kd.S_below HS.out hb) HB4.out.size)
        have HB9 := Aside0.mk (below_step HBW.out hb)
        obtain ⟨Ap, cp, ep⟩ := Kd.R_slice hR
        subst ep
        obtain ⟨-, hcp, hCp⟩ := Kd.R_reads' hR
        have HRP := Aside0.mk hCp
        have HRL := Aside0.mk (Kd.C_below HR0.out HB9.out)
        clear HS HL HM HBW hb hR hcp hCp
        by_cases h0 : pe = 0
        · have hbn : (pe != 0) = false := bne_eq_false_iff_eq.mpr h0
          have H0 := Aside0.mk h0
          have hbe := bytes_eq (a := p) (b := l0) HPB.out HBY.out
          clear h0
          by_cases hpl : p = l0
          · have b4 : ((strOfNums p).toList != (strOfNums l0).toList) = false := by rw [bne, hbe, decide_eq_true hpl]; rfl
            have b5 : ((strOfNums p).toList == (strOfNums l0).toList) = true := hbe.trans (decide_eq_true hpl)
            have HS2 := Aside0.mk ((if_neg (by rw [not_or]; exact ⟨by simpa using H0.out, by simpa using hpl⟩)).symm.trans HST.out)
            clear hpl hbe
            go_wp2_with (first | ((with_reducible refine gate_dst (N := 58) rfl ?_); (try (refine gate_guard (by rfl) ?_; dsimp only)); refine Gen.ev_string' (strOfNums p) rfl 22 9 5 (.tmp 57) rfl Try.underlying22 Try.underlying9 Try.underlying5 rfl HRP.out rfl ?_) | ((with_reducible refine gate_dst (N := 60) rfl ?_); (try (refine gate_guard (by rfl) ?_; dsimp only)); refine Gen.ev_string' (strOfNums l0) rfl 22 9 5 (.tmp 59) rfl Try.underlying22 Try.underlying9 Try.underlying5 rfl HRL.out rfl ?_))
            go_ret2
            obtain ⟨rfl, rfl⟩ := Prod.mk.inj HS2.out
            exact ⟨_, rfl, HS9.out, HB9.out⟩
          · have b4 : ((strOfNums p).toList != (strOfNums l0).toList) = true := by rw [bne, hbe, decide_eq_false hpl]; rfl
            have b5 : ((strOfNums p).toList == (strOfNums l0).toList) = false := hbe.trans (decide_eq_false hpl)
            have HS2 := Aside0.mk ((if_pos (.inr hpl)).symm.trans HST.out)
            clear hpl hbe
            go_wp2_with (first | ((with_reducible refine gate_dst (N := 58) rfl ?_); (try (refine gate_guard (by rfl) ?_; dsimp only)); refine Gen.ev_string' (strOfNums p) rfl 22 9 5 (.tmp 57) rfl Try.underlying22 Try.underlying9 Try.underlying5 rfl HRP.out rfl ?_) | ((with_reducible refine gate_dst (N := 60) rfl ?_); (try (refine gate_guard (by rfl) ?_; dsimp only)); refine Gen.ev_string' (strOfNums l0) rfl 22 9 5 (.tmp 59) rfl Try.underlying22 Try.underlying9 Try.underlying5 rfl HRL.out rfl ?_))
            go_ret2
            obtain ⟨rfl, rfl⟩ := Prod.mk.inj HS2.out
            exact ⟨_, rfl, Kd.S_nil _ _ _ _ _, HB9.out⟩
        · have hbn : (pe != 0) = true := bne_iff_ne.mpr h0
          have HS2 := Aside0.mk ((if_pos (.inl h0)).symm.trans HST.out)
          clear h0
          go_wp2_with fail
          go_ret2
          obtain ⟨rfl, rfl⟩ := Prod.mk.inj HS2.out
          exact ⟨_, rfl, Kd.S_nil _ _ _ _ _, HB9.out⟩
      · have d1 : decide ((i : Int) < x) = false := decide_eq_false hin
        have HI := Aside0.mk (show i = cnt x by have h := HC.out.2.1; unfold cnt at h ⊢; omega)
        clear hgo hin
        obtain ⟨⟨p, pe⟩, hp⟩ : ∃ q, putDs acc = q := ⟨_, rfl⟩
        have HST : Aside0 ((if pe ≠ 0 ∨ p ≠ l0 then ([], 2) else (acc, 0)) = (r1, r2)) := ⟨by
          have h := HH.out
          have h2 := HR.out
          rw [HI.out, Nat.sub_self] at h2
          rw [← h2] at h
          have h3 : (if (putDs acc).2 ≠ 0 ∨ (putDs acc).1 ≠ l0 then ([], 2) else (acc, 0)) = (r1, r2) := h
          rw [hp] at h3
          exact h3⟩
        have HFIT := Aside0.mk (show registrarref07_PutDefsG.f acc = some (p, pe) by rw [← hp]; exact if_pos (List.all_eq_true.2 HC.out.2.2))
        have HPB : Aside0 (isBytes p) := ⟨by
          have := congrArg (fun z => z.1) hp
          simp only at this
          rw [← this]
          unfold putDs
          split
          · intro c hc; simp at hc
          · split
            · intro c hc; simp at hc
            · exact encDs_bytes _⟩
        obtain ⟨-, hcl, hC⟩ := Kd.S_reads' HS.out
        have HM := Aside0.mk (registrarref07_PutDefsG.calls A6 c6 acc p pe wr hC hcl HFIT.out)
        have HBW := Aside0.mk (HB4.out.trans (HL.out.below.mono HWG.out))
        clear hC hcl hp
        go_wp2_with fail
        refine HM.out.mono ?_
        rintro e w9 ⟨vp, rfl, hR, hb⟩
        have HS9 := Aside0.mk (Kd.S_lower (Kd.S_below HS.out hb) HB4.out.size)
        have HB9 := Aside0.mk (below_step HBW.out hb)
        obtain ⟨Ap, cp, ep⟩ := Kd.R_slice hR
        subst ep
        obtain ⟨-, hcp, hCp⟩ := Kd.R_reads' hR
        have HRP := Aside0.mk hCp
        have HRL := Aside0.mk (Kd.C_below HR0.out HB9.out)
        clear HS HL HM HBW hb hR hcp hCp
        by_cases h0 : pe = 0
        · have hbn : (pe != 0) = false := bne_eq_false_iff_eq.mpr h0
          have H0 := Aside0.mk h0
          have hbe := bytes_eq (a := p) (b := l0) HPB.out HBY.out
          clear h0
          by_cases hpl : p = l0
          · have b4 : ((strOfNums p).toList != (strOfNums l0).toList) = false := by rw [bne, hbe, decide_eq_true hpl]; rfl
            have b5 : ((strOfNums p).toList == (strOfNums l0).toList) = true := hbe.trans (decide_eq_true hpl)
            have HS2 := Aside0.mk ((if_neg (by rw [not_or]; exact ⟨by simpa using H0.out, by simpa using hpl⟩)).symm.trans HST.out)
            clear hpl hbe
            go_wp2_with (first | ((with_reducible refine gate_dst (N := 58) rfl ?_); (try (refine gate_guard (by rfl) ?_; dsimp only)); refine Gen.ev_string' (strOfNums p) rfl 22 9 5 (.tmp 57) rfl Try.underlying22 Try.underlying9 Try.underlying5 rfl HRP.out rfl ?_) | ((with_reducible refine gate_dst (N := 60) rfl ?_); (try (refine gate_guard (by rfl) ?_; dsimp only)); refine Gen.ev_string' (strOfNums l0) rfl 22 9 5 (.tmp 59) rfl Try.underlying22 Try.underlying9 Try.underlying5 rfl HRL.out rfl ?_))
            go_ret2
            obtain ⟨rfl, rfl⟩ := Prod.mk.inj HS2.out
            exact ⟨_, rfl, HS9.out, HB9.out⟩
          · have b4 : ((strOfNums p).toList != (strOfNums l0).toList) = true := by rw [bne, hbe, decide_eq_false hpl]; rfl
            have b5 : ((strOfNums p).toList == (strOfNums l0).toList) = false := hbe.trans (decide_eq_false hpl)
            have HS2 := Aside0.mk ((if_pos (.inr hpl)).symm.trans HST.out)
            clear hpl hbe
            go_wp2_with (first | ((with_reducible refine gate_dst (N := 58) rfl ?_); (try (refine gate_guard (by rfl) ?_; dsimp only)); refine Gen.ev_string' (strOfNums p) rfl 22 9 5 (.tmp 57) rfl Try.underlying22 Try.underlying9 Try.underlying5 rfl HRP.out rfl ?_) | ((with_reducible refine gate_dst (N := 60) rfl ?_); (try (refine gate_guard (by rfl) ?_; dsimp only)); refine Gen.ev_string' (strOfNums l0) rfl 22 9 5 (.tmp 59) rfl Try.underlying22 Try.underlying9 Try.underlying5 rfl HRL.out rfl ?_))
            go_ret2
            obtain ⟨rfl, rfl⟩ := Prod.mk.inj HS2.out
            exact ⟨_, rfl, Kd.S_nil _ _ _ _ _, HB9.out⟩
        · have hbn : (pe != 0) = true := bne_iff_ne.mpr h0
          have HS2 := Aside0.mk ((if_pos (.inl h0)).symm.trans HST.out)
          clear h0
          go_wp2_with fail
          go_ret2
          obtain ⟨rfl, rfl⟩ := Prod.mk.inj HS2.out
          exact ⟨_, rfl, Kd.S_nil _ _ _ _ _, HB9.out⟩
end Go.Proofs.Ytdpigeineephlaa.Prt
namespace Go.Proofs.Ytdpigeineephlaa.Prt
open Go.RowKit Go.Proofs.YtdpigeineephlaaW.PrintWords Go.Proofs.YtdpigeineephlaaW.PrintLast Go.Proofs.YtdpigeineephlaaW.PrintMore Go.Proofs.Ytdpigeineephlaa.Num Go.Proofs.Ytdpigeineephlaa.Nam
set_option linter.unusedVariables false
set_option linter.unusedSimpArgs false

theorem textClo_calls (P : Nat → Prop) (w : World) (g Rb : Nat) (l : List Int) (b : Bool) (hR : w.heap[Rb]? = some (.cells #[.pointer (some ⟨g, 0, none⟩)] 44 (0, 0))) (hI : Rd 71 P w g l b) (hb : isBytes l) :
    Calls Try.prog 39 #[.pointer (some ⟨Rb, 0, none⟩)] w fun e w' => e = .returned (.tuple #[.string (stepT l b).1.1, .bool (stepT l b).1.2]) ∧ Lv w w' P g l.length (stepT l b).2 := by
  have hr0 := blk_cell hR 0
  have HT := Aside0.mk (text_calls P w g l b hI hb)
  have HBY := Aside0.mk (And.intro (aftT_bytes hb) (aftT_len l hb))
  clear hR hI hb
  go_enter Try.func39, Try.ntmps39
  go_wp2_with fail
  refine HT.out.mono ?_
  rintro e w1 ⟨rfl, hI, hb, hk⟩
  have n1_ := Aside0.mk (Lv.mk (n := l.length) (q := (aftT l, badT l b)) hI HBY.out.1 HBY.out.2 hb hk)
  clear hI hb hk
  go_wp2
  go_ret2
  exact ⟨rfl, n1_.out⟩
theorem texts_calls (P : Nat → Prop) (w : World) (g Rb : Nat) (l : List Int) (b : Bool) (hR : w.heap[Rb]? = some (.cells #[.pointer (some ⟨g, 0, none⟩)] 44 (0, 0))) (hne : Rb ≠ g) (hI : Rd 71 P w g l b) (hb : isBytes l) (hP : ∀ k, P k → k < w.heap.size) (r : (List ByteArray × Bool) × List Int × Bool) (hr : takeL stepT 4 l b = r) :
    Calls Try.prog 43 #[.pointer (some ⟨g, 0, none⟩), .int .i64 4, .func (.func 39) #[] #[.pointer (some ⟨Rb, 0, none⟩)]] w fun e w' =>
      ∃ v, e = .returned (.tuple #[v, .bool r.1.2]) ∧ Kd.string.R 9 w' w.heap.size (fun _ => True) v r.1.1 ∧ Lv w w' P g l.length r.2 :=
  takenStr_calls stepT 4 39 _ P w g l b hI hb hP (by decide) (by decide) (enters_of Try.func39 (by kernel_rfl) rfl) (fun w1 l1 b1 hL => textClo_calls P w1 g Rb l1 b1 (hL.keep.blk hR hne (by simp)) hL.rd hL.by_) r hr
theorem claClo_calls (P : Nat → Prop) (w : World) (g Rb Tb : Nat) (l : List Int) (b : Bool) (hR : w.heap[Rb]? = some (.cells #[.pointer (some ⟨g, 0, none⟩)] 44 (0, 0))) (hT : w.heap[Tb]? = some (.cells #[.func (.func 39) #[] #[.pointer (some ⟨Rb, 0, none⟩)]] 73 (0, 0))) (hne : Rb ≠ g) (hnt : Tb ≠ g) (hI : Rd 71 P w g l b) (hb : isBytes l) (hP : ∀ k, P k → k < w.heap.size) :
    Calls Try.prog 42 #[.pointer (some ⟨Rb, 0, none⟩), .pointer (some ⟨Tb, 0, none⟩)] w fun e w' => ∃ v0 v1, e = .returned (.tuple #[.agg #[v0, v1], .bool (stepC l b).1.2]) ∧ Kd.string.R 9 w' w.heap.size (fun _ => True) v0 (stepC l b).1.1.f0 ∧ Kd.string.R 9 w' w.heap.size (fun _ => True) v1 (stepC l b).1.1.f1 ∧ Lv w w' P g l.length (stepC l b).2 := by
  obtain ⟨⟨⟨m0, ok0⟩, l1, b1⟩, hq0⟩ : ∃ q, takeL stepT 4 l b = q := ⟨_, rfl⟩
  obtain ⟨⟨⟨m1, ok1⟩, l2, b2⟩, hq1⟩ : ∃ q, takeL stepT 4 l1 b1 = q := ⟨_, rfl⟩
  have HST : Aside0 (stepC l b = if ok0 = false then ((⟨m0, []⟩, false), (l1, b1)) else ((⟨m0, m1⟩, ok1), (l2, b2))) := ⟨by unfold stepC; rw [hq0]; simp only; rw [hq1]⟩
  have HR := Aside0.mk hR
  have HT := Aside0.mk hT
  have HNE := Aside0.mk (And.intro hne hnt)
  have HGW := Aside0.mk hI.lt
  have HPP := Aside0.mk hP
  have HL0 := Aside0.mk (Lv.mk (n := l.length) (q := (l, b)) hI hb (Nat.le_refl _) (Below.refl g w) (KeepBut.refl w g none))
  have HQ0 := Aside0.mk hq0
  have HQ1 := Aside0.mk hq1
  clear hR hT hne hnt hI hb hP hq0 hq1
  have hu60 := Try.underlying60
  go_enter Try.func42, Try.ntmps42
  go_upto_region 1 with (first | ((with_reducible refine gate_dst (N := 2) rfl ?_); (try (refine gate_guard (by rfl) ?_; dsimp only)); refine box_event ?hg (N := 2) ?hd (cs := #[.slice none 0 0, .slice none 0 0]) (t := 60) ?hr ?_; (case hd => rfl); (case hg => rfl); (case hr => first | (go_simp; done) | (go_simp; rfl)); intro E hg_ w1 hbox_ hb_; have HE := Aside0.mk hbox_; have HEN := Aside0.mk hg_; have HEB := Aside0.mk hb_; clear hbox_ hg_ hb_))
  have HEW := Aside0.mk (show w.heap.size ≤ E by rw [HEN.out]; exact Nat.le_refl _)
  have HEG := Aside0.mk (show E ≠ g by have := HGW.out; have := HEW.out; omega)
  have HR1 := Aside0.mk (blk_below HR.out HEB.out)
  have HT1 := Aside0.mk (blk_below HT.out HEB.out)
  have HL1 := Aside0.mk (HL0.out.up HEB.out)
  have HP1 := Aside0.mk (fun k (hk : P k) => Nat.lt_of_lt_of_le (HPP.out k hk) HEB.out.size)
  have hr0 := blk_cell HR1.out 0
  have ht0 := blk_cell HT1.out 0
  clear HL0 HEN HEB
  go_wp2_with fail
  refine (texts_calls P w1 g Rb l b HR1.out HNE.out.1 HL1.out.rd HL1.out.by_ HP1.out _ HQ0.out).mono ?_
  rintro e w2 ⟨v0, rfl, h0, hL⟩
  obtain ⟨A0, c0, e0⟩ := Kd.R_slice h0
  subst e0
  have H0 := Aside0.mk (Kd.R_lower h0 HL1.out.keep.1)
  have HE2 := Aside0.mk (hL.keep.blk HE.out HEG.out (by simp))
  have HL2 := Aside0.mk (HL1.out.trans hL HL1.out.len)
  clear h0 hL HL1 HP1 HR1 HT1 HE hr0 ht0
  have hq0 := blk_cell HE2.out 0
  have hf0 := blk_frozen HE2.out 0
  go_upto_region 2 with (fail)
  have n0_ := Aside0.mk (R_set H0.out HE2.out (by decide) 0 (.slice A0 m0.length c0))
  have n1_ := Aside0.mk (blk_put (cs' := #[.slice A0 m0.length c0, .slice none 0 0]) HE2.out 0 (.slice A0 m0.length c0) rfl)
  have n2_ := Aside0.mk (HL2.out.set HGW.out HPP.out HEW.out 0 (.slice A0 m0.length c0))
  clear H0 HE2 HL2 hq0 hf0
  generalize w2.setCell ⟨E, 0, none⟩ (.slice A0 m0.length c0) = w3 at n0_ n1_ n2_ ⊢
  cases ok0 with
  | false =>
    have HS2 := Aside0.mk (HST.out.trans (if_pos rfl))
    clear HST
    have hq0 := blk_cell n1_.out 0
    have hq1 := blk_cell n1_.out 1
    have hf0 := blk_frozen n1_.out 0
    have hf1 := blk_frozen n1_.out 1
    go_wp2_with fail
    have HE9 := blk_put (cs' := #[.slice A0 m0.length c0, .slice none 0 0]) (blk_put (cs' := #[.slice A0 m0.length c0, .slice none 0 0]) n1_.out 0 (.slice A0 m0.length c0) rfl) 1 (.slice none 0 0) rfl
    refine bodyPost_ret (results_ct rfl _ _ E 60 _ (0, 0) _ rfl HE9 Try.underlying60 rfl (by kernel_rfl)) rfl ?_
    rw [HS2.out]
    exact ⟨.slice A0 m0.length c0, .slice none 0 0, rfl, R_setA2 n0_.out n1_.out (by decide) _ _, Kd.R_nil _ _ _ _ _, (n2_.out.set HGW.out HPP.out HEW.out 0 _).set HGW.out HPP.out HEW.out 1 _⟩
  | true =>
    have HS2 := Aside0.mk (HST.out.trans (if_neg (by simp)))
    clear HST
    have HR3 := Aside0.mk (n2_.out.keep.blk HR.out HNE.out.1 (by simp))
    have HT3 := Aside0.mk (n2_.out.keep.blk HT.out HNE.out.2 (by simp))
    have hr0 := blk_cell HR3.out 0
    have ht0 := blk_cell HT3.out 0
    go_wp2_with fail
    refine (texts_calls P w3 g Rb l1 b1 HR3.out HNE.out.1 n2_.out.rd n2_.out.by_ (fun k hk => Nat.lt_of_lt_of_le (HPP.out k hk) n2_.out.keep.1) _ HQ1.out).mono ?_
    rintro e w4 ⟨v1, rfl, h1, hL⟩
    obtain ⟨A1, c1, e1⟩ := Kd.R_slice h1
    subst e1
    have H1 := Aside0.mk (Kd.R_lower h1 n2_.out.keep.1)
    have H0 := Aside0.mk (R_off' n0_.out HGW.out hL.keep)
    have HE4 := Aside0.mk (hL.keep.blk n1_.out HEG.out (by simp))
    have HL4 := Aside0.mk (n2_.out.trans hL n2_.out.len)
    clear h1 hL n0_ n1_ n2_ HR3 HT3 hr0 ht0
    have hq1 := blk_cell HE4.out 1
    have hf1 := blk_frozen HE4.out 1
    go_upto_region 5 with (fail)
    have n0_ := Aside0.mk (R_set H0.out HE4.out (by decide) 1 (.slice A1 m1.length c1))
    have n3_ := Aside0.mk (R_set H1.out HE4.out (by decide) 1 (.slice A1 m1.length c1))
    have n1_ := Aside0.mk (blk_put (cs' := #[.slice A0 m0.length c0, .slice A1 m1.length c1]) HE4.out 1 (.slice A1 m1.length c1) rfl)
    have n2_ := Aside0.mk (HL4.out.set HGW.out HPP.out HEW.out 1 (.slice A1 m1.length c1))
    clear H0 H1 HE4 HL4 hq1 hf1
    generalize w4.setCell ⟨E, 1, none⟩ (.slice A1 m1.length c1) = w5 at n0_ n1_ n2_ n3_ ⊢
    have hq0 := blk_cell n1_.out 0
    have hq1 := blk_cell n1_.out 1
    have hf0 := blk_frozen n1_.out 0
    have hf1 := blk_frozen n1_.out 1
    go_wp2_with fail
    have HE9 := blk_put (cs' := #[.slice A0 m0.length c0, .slice A1 m1.length c1]) (blk_put (cs' := #[.slice A0 m0.length c0, .slice A1 m1.length c1]) n1_.out 0 (.slice A0 m0.length c0) rfl) 1 (.slice A1 m1.length c1) rfl
    refine bodyPost_ret (results_ct rfl _ _ E 60 _ (0, 0) _ rfl HE9 Try.underlying60 rfl (by kernel_rfl)) rfl ?_
    rw [HS2.out]
    exact ⟨.slice A0 m0.length c0, .slice A1 m1.length c1, rfl, R_setA2 n0_.out n1_.out (by decide) _ _, R_setA2 n3_.out n1_.out (by decide) _ _, (n2_.out.set HGW.out HPP.out HEW.out 0 _).set HGW.out HPP.out HEW.out 1 _⟩
end Go.Proofs.Ytdpigeineephlaa.Prt
namespace Go.Proofs.Ytdpigeineephlaa.Prt
open Go.RowKit Go.Proofs.YtdpigeineephlaaW.PrintWords Go.Proofs.YtdpigeineephlaaW.PrintLast Go.Proofs.YtdpigeineephlaaW.PrintMore Go.Proofs.Ytdpigeineephlaa.Num Go.Proofs.Ytdpigeineephlaa.Nam
set_option linter.unusedVariables false
set_option linter.unusedSimpArgs false

theorem clauses_calls (P : Nat → Prop) (w : World) (g Rb Tb : Nat) (l : List Int) (b : Bool) (hR : w.heap[Rb]? = some (.cells #[.pointer (some ⟨g, 0, none⟩)] 44 (0, 0))) (hT : w.heap[Tb]? = some (.cells #[.func (.func 39) #[] #[.pointer (some ⟨Rb, 0, none⟩)]] 73 (0, 0))) (hne : Rb ≠ g) (hnt : Tb ≠ g) (hI : Rd 71 P w g l b) (hb : isBytes l) (hP : ∀ k, P k → k < w.heap.size) (r : (List S60 × Bool) × List Int × Bool) (hr : takeL stepC 4 l b = r) :
    Calls Try.prog 41 #[.pointer (some ⟨g, 0, none⟩), .int .i64 4, .func (.func 42) #[] #[.pointer (some ⟨Rb, 0, none⟩), .pointer (some ⟨Tb, 0, none⟩)]] w fun e w' =>
      ∃ v, e = .returned (.tuple #[v, .bool r.1.2]) ∧ Kd.S k60 60 w' w.heap.size (fun _ => True) v r.1.1 ∧ Lv w w' P g l.length r.2 :=
  takenCla_calls stepC 4 42 _ _ P w g l b hI hb hP (by decide) (by decide) (enters_of Try.func42 (by kernel_rfl) rfl) (fun w1 l1 b1 hL => claClo_calls P w1 g Rb Tb l1 b1 (hL.keep.blk hR hne (by simp)) (hL.keep.blk hT hnt (by simp)) hne hnt hL.rd hL.by_ (fun k hk => Nat.lt_of_lt_of_le (hP k hk) hL.keep.1)) r hr
theorem S_turnT {α : Type} {d : Kd α} {e : Nat} {w w1 : World} {base g t : Nat} {v : Value} {xs : List α} {cells : Array Value} (h : Kd.S d e w base (fun _ => True) v xs) (hb : w.heap[g]? = some (.cells cells t (0, 0))) (ht : ∀ q, q ∈ e :: d.E → q ≠ t) (hk : KeepBut w w1 g none) : Kd.S d e w1 base (fun _ => True) v xs := Kd.S_mono (S_turnG h hb ht hk) (fun _ _ => trivial)
theorem takeQ_calls (P : Nat → Prop) (w : World) (g : Nat) (l : List Int) (b : Bool) (hI : Rd 71 P w g l b) (hb : isBytes l) (hP : ∀ k, P k → k < w.heap.size) (r : List S60 × Int × List Int × Bool) (hr : takeQ l b = r) :
    Calls Try.prog 21 #[.pointer (some ⟨g, 0, none⟩)] w fun e w' => ∃ v, e = .returned (.tuple #[.agg #[v], .int .i64 r.2.1]) ∧ Kd.S k60 60 w' w.heap.size (fun _ => True) v r.1 ∧ Lv w w' P g l.length r.2.2 := by
  have HLE := Aside0.mk (takeL_left (stepC_left 9223372036854775807) 4 (by decide) l b hb hI.len)
  obtain ⟨⟨⟨m, ok⟩, l1, b1⟩, hq⟩ : ∃ q, takeL stepC 4 l b = q := ⟨_, rfl⟩
  rw [hq] at HLE
  have HST : Aside0 (r = if ok = false ∨ mayQ m ≠ 0 then ([], 2, (l1, b1)) else (m, 0, (l1, b1))) := ⟨by rw [← hr]; unfold takeQ; rw [hq]⟩
  have HGW := Aside0.mk hI.lt
  have HPP := Aside0.mk hP
  have HL0 := Aside0.mk (Lv.mk (n := l.length) (q := (l, b)) hI hb (Nat.le_refl _) (Below.refl g w) (KeepBut.refl w g none))
  have HQ := Aside0.mk hq
  clear hI hb hP hq hr
  have hu25 := Try.underlying25
  go_enter Try.func21, Try.ntmps21
  go_upto_region 1 with (first | ((with_reducible refine gate_dst (N := 1) rfl ?_); (try (refine gate_guard (by rfl) ?_; dsimp only)); refine box_event ?hg (N := 1) ?hd (cs := #[.pointer (some ⟨g, 0, none⟩)]) (t := 44) ?hr ?_; (case hd => rfl); (case hg => rfl); (case hr => first | (go_simp; done) | (go_simp; rfl)); intro Rb hg_ w1 hbox_ hb_; have HR := Aside0.mk hbox_; have HRN := Aside0.mk hg_; have HRB := Aside0.mk hb_; clear hbox_ hg_ hb_) | ((with_reducible refine gate_dst (N := 2) rfl ?_); (try (refine gate_guard (by rfl) ?_; dsimp only)); refine box_event ?hg (N := 2) ?hd (cs := #[.slice none 0 0]) (t := 25) ?hr ?_; (case hd => rfl); (case hg => rfl); (case hr => first | (go_simp; done) | (go_simp; rfl)); intro Q hg_ w2 hbox_ hb_; have HX := Aside0.mk hbox_; have HXN := Aside0.mk hg_; have HXB := Aside0.mk hb_; clear hbox_ hg_ hb_))
  have HRW := Aside0.mk (show w.heap.size ≤ Rb ∧ w.heap.size ≤ Q ∧ Rb ≠ g by
    have h1 := HRN.out
    have h2 := HXN.out
    have h3 := HRB.out.size
    have h4 := HGW.out
    omega)
  have HR2 := Aside0.mk (blk_below HR.out HXB.out)
  have HL2 := Aside0.mk ((HL0.out.up HRB.out).up HXB.out)
  clear HR HL0 HRN HXN HRB HXB
  have hr0 := blk_cell HR2.out 0
  go_upto_region 3 with (fail)
  go_upto_region 4 with (first | ((with_reducible refine gate_dst (N := 4) rfl ?_); (try (refine gate_guard (by rfl) ?_; dsimp only)); refine box_event ?hg (N := 4) ?hd (cs := #[.nilFunc]) (t := 73) ?hr ?_; (case hd => rfl); (case hg => rfl); (case hr => first | (go_simp; done) | (go_simp; rfl)); intro Tb hg_ w3 hbox_ hb_; have HT := Aside0.mk hbox_; have HTN := Aside0.mk hg_; have HTB := Aside0.mk hb_; clear hbox_ hg_ hb_; have ht0 := blk_cell HT.out 0; have hf0 := blk_frozen HT.out 0))
  have HTW := Aside0.mk (show w.heap.size ≤ Tb ∧ Tb ≠ Rb ∧ Tb ≠ Q ∧ Tb ≠ g by
    have h1 := HTN.out
    have h2 := blk_lt HR2.out
    have h3 := blk_lt HX.out
    have h4 := HL2.out.keep.1
    have h5 := HGW.out
    omega)
  have n1_ := Aside0.mk (blk_far (blk_below HR2.out HTB.out) (Ne.symm HTW.out.2.1) (p := ⟨Tb, 0, none⟩) (.func (.func 39) #[] #[.pointer (some ⟨Rb, 0, none⟩)]))
  have n2_ := Aside0.mk (blk_far (blk_below HX.out HTB.out) (Ne.symm HTW.out.2.2.1) (p := ⟨Tb, 0, none⟩) (.func (.func 39) #[] #[.pointer (some ⟨Rb, 0, none⟩)]))
  have n3_ := Aside0.mk ((HL2.out.up HTB.out).set HGW.out HPP.out HTW.out.1 0 (.func (.func 39) #[] #[.pointer (some ⟨Rb, 0, none⟩)]))
  have n4_ := Aside0.mk (blk_put (cs' := #[.func (.func 39) #[] #[.pointer (some ⟨Rb, 0, none⟩)]]) HT.out 0 (.func (.func 39) #[] #[.pointer (some ⟨Rb, 0, none⟩)]) rfl)
  clear HR2 HX HL2 HT HTN HTB hr0 ht0 hf0
  generalize w3.setCell ⟨Tb, 0, none⟩ (.func (.func 39) #[] #[.pointer (some ⟨Rb, 0, none⟩)]) = w4 at n1_ n2_ n3_ n4_ ⊢
  have HR4 := n1_
  have HX4 := n2_
  have HL4 := n3_
  have HT4 := n4_
  clear n1_ n2_ n3_ n4_
  have hr0 := blk_cell HR4.out 0
  go_wp2_with fail
  refine (clauses_calls P w4 g Rb Tb l b HR4.out HT4.out HRW.out.2.2 HTW.out.2.2.2 HL4.out.rd HL4.out.by_ (fun k hk => Nat.lt_of_lt_of_le (HPP.out k hk) HL4.out.keep.1) _ HQ.out).mono ?_
  rintro e w5 ⟨v, rfl, hS, hL⟩
  obtain ⟨A, c, ev⟩ := Kd.S_slice hS
  subst ev
  have HS5 := Aside0.mk (Kd.S_lower hS HL4.out.keep.1)
  have HX5 := Aside0.mk (hL.keep.blk HX4.out (by have := HGW.out; have := HRW.out.2.1; omega) (by simp))
  have HL5 := Aside0.mk (HL4.out.trans hL HL4.out.len)
  clear hS hL HR4 HX4 HL4 HT4 hr0
  go_upto_region 6 with (first | ((with_reducible refine gate_dst (N := 7) rfl ?_); (try (refine gate_guard (by rfl) ?_; dsimp only)); refine box_event ?hg (N := 7) ?hd (cs := #[.slice none 0 0]) (t := 25) ?hr ?_; (case hd => rfl); (case hg => rfl); (case hr => first | (go_simp; done) | (go_simp; rfl)); intro E hg_ w6 hbox_ hb_; have HE := Aside0.mk hbox_; have HEN := Aside0.mk hg_; have HEB := Aside0.mk hb_; clear hbox_ hg_ hb_; have he0 := blk_cell HE.out 0; have hf0 := blk_frozen HE.out 0))
  have HEW := Aside0.mk (show w.heap.size ≤ E ∧ E ≠ Q by
    have h1 := HEN.out
    have h2 := blk_lt HX5.out
    have h3 := HL5.out.keep.1
    omega)
  have n1_ := Aside0.mk (S_set (Kd.S_below HS5.out HEB.out) HE.out (by decide) 0 (.slice A m.length c))
  have n2_ := Aside0.mk (blk_far (blk_below HX5.out HEB.out) (Ne.symm HEW.out.2) (p := ⟨E, 0, none⟩) (.slice A m.length c))
  have n3_ := Aside0.mk ((HL5.out.up HEB.out).set HGW.out HPP.out HEW.out.1 0 (.slice A m.length c))
  have n4_ := Aside0.mk (blk_put (cs' := #[.slice A m.length c]) HE.out 0 (.slice A m.length c) rfl)
  clear HS5 HX5 HL5 HE HEN HEB he0 hf0
  generalize w6.setCell ⟨E, 0, none⟩ (.slice A m.length c) = w7 at n1_ n2_ n3_ n4_ ⊢
  cases ok with
  | false =>
    have HS2 := Aside0.mk (HST.out.trans (if_pos (.inl rfl)))
    clear HST
    have hq0 := blk_cell n2_.out 0
    have hf0 := blk_frozen n2_.out 0
    go_wp2_with fail
    have HE9 := blk_put (cs' := #[.slice none 0 0]) n2_.out 0 (.slice none 0 0) rfl
    refine bodyPost_ret (results_ct rfl _ _ Q 25 _ (0, 0) _ rfl HE9 Try.underlying25 rfl (by kernel_rfl)) rfl ?_
    rw [HS2.out]
    exact ⟨.slice none 0 0, rfl, Kd.S_nil _ _ _ _ _, n3_.out.set HGW.out HPP.out HRW.out.2.1 0 _⟩
  | true =>
    obtain ⟨-, hc, hC⟩ := Kd.S_reads' n1_.out
    have HM := Aside0.mk (query_May.calls A c m (mayQ m) w7 hC hc (if_pos (List.all_eq_true.2 fun x hx => fitC_iff.2 (HLE.out.2.2.1 x hx))))
    have he0 := blk_cell n4_.out 0
    clear hC hc
    go_wp2_with fail
    refine HM.out.mono ?_
    rintro e w8 ⟨rfl, hb8⟩
    have HS8 := Aside0.mk (Kd.S_below n1_.out hb8)
    have HX8 := Aside0.mk (blk_below n2_.out hb8)
    have HL8 := Aside0.mk (n3_.out.up hb8)
    have HE8 := Aside0.mk (blk_below n4_.out hb8)
    clear hb8 n1_ n2_ n3_ n4_ HM he0
    by_cases h0 : mayQ m = 0
    · have hbn : (mayQ m != 0) = false := bne_eq_false_iff_eq.mpr h0
      have HS2 := Aside0.mk (HST.out.trans (if_neg (by simp [h0])))
      clear HST h0
      have hq0 := blk_cell HX8.out 0
      have hf0 := blk_frozen HX8.out 0
      have he0 := blk_cell HE8.out 0
      go_wp2_with fail
      have HE9 := blk_put (cs' := #[.slice A m.length c]) HX8.out 0 (.slice A m.length c) rfl
      refine bodyPost_ret (results_ct rfl _ _ Q 25 _ (0, 0) _ rfl HE9 Try.underlying25 rfl (by kernel_rfl)) rfl ?_
      rw [HS2.out]
      exact ⟨.slice A m.length c, rfl, S_set HS8.out HX8.out (by decide) 0 _, HL8.out.set HGW.out HPP.out HRW.out.2.1 0 _⟩
    · have hbn : (mayQ m != 0) = true := bne_iff_ne.mpr h0
      have HS2 := Aside0.mk (HST.out.trans (if_pos (.inr h0)))
      clear HST h0
      have hq0 := blk_cell HX8.out 0
      have hf0 := blk_frozen HX8.out 0
      go_wp2_with fail
      have HE9 := blk_put (cs' := #[.slice none 0 0]) HX8.out 0 (.slice none 0 0) rfl
      refine bodyPost_ret (results_ct rfl _ _ Q 25 _ (0, 0) _ rfl HE9 Try.underlying25 rfl (by kernel_rfl)) rfl ?_
      rw [HS2.out]
      exact ⟨.slice none 0 0, rfl, Kd.S_nil _ _ _ _ _, HL8.out.set HGW.out HPP.out HRW.out.2.1 0 _⟩
end Go.Proofs.Ytdpigeineephlaa.Prt
namespace Go.Proofs.Ytdpigeineephlaa.Prt
open Go.RowKit Go.Proofs.YtdpigeineephlaaW.PrintWords Go.Proofs.YtdpigeineephlaaW.PrintLast Go.Proofs.YtdpigeineephlaaW.PrintMore Go.Proofs.Ytdpigeineephlaa.Num Go.Proofs.Ytdpigeineephlaa.Nam
set_option linter.unusedVariables false
set_option linter.unusedSimpArgs false

theorem defClo_calls (P : Nat → Prop) (w : World) (g Rb : Nat) (l : List Int) (b : Bool) (hR : w.heap[Rb]? = some (.cells #[.pointer (some ⟨g, 0, none⟩)] 44 (0, 0))) (hne : Rb ≠ g) (hI : Rd 71 P w g l b) (hb : isBytes l) (hP : ∀ k, P k → k < w.heap.size) :
    Calls Try.prog 47 #[.pointer (some ⟨Rb, 0, none⟩)] w fun e w' => ∃ v2, e = .returned (.tuple #[.agg #[.int .i64 (stepD l b).1.1.f0, .string (stepD l b).1.1.f1, v2], .bool (stepD l b).1.2]) ∧ k60.R 60 w' w.heap.size (fun _ => True) v2 (stepD l b).1.1.f2.f0 ∧ Lv w w' P g l.length (stepD l b).2 := by
  obtain ⟨k, hk⟩ : ∃ k, numOf l = k := ⟨_, rfl⟩
  obtain ⟨s, hs⟩ : ∃ s, textOf (aft l) = s := ⟨_, rfl⟩
  obtain ⟨⟨m, c, l3, b3⟩, hq⟩ : ∃ q, takeQ (aftT (aft l)) (badT (aft l) (badOf l b)) = q := ⟨_, rfl⟩
  have HST : Aside0 (stepD l b = ((⟨k, s, ⟨m⟩⟩, decide (c = 0)), (l3, b3))) := ⟨by unfold stepD; rw [hk, hs, hq]⟩
  have HR := Aside0.mk hR
  have HNE := Aside0.mk hne
  have HGW := Aside0.mk hI.lt
  have HPP := Aside0.mk hP
  have HL0 := Aside0.mk (Lv.mk (n := l.length) (q := (l, b)) hI hb (Nat.le_refl _) (Below.refl g w) (KeepBut.refl w g none))
  have HK := Aside0.mk hk
  have HS := Aside0.mk hs
  have HQ := Aside0.mk hq
  have HY := Aside0.mk (show isBytes (aft l) ∧ (aft l).length ≤ l.length ∧ isBytes (aftT (aft l)) ∧ (aftT (aft l)).length ≤ (aft l).length from ⟨aft_bytes hb, aft_len l hb, aftT_bytes (aft_bytes hb), aftT_len _ (aft_bytes hb)⟩)
  clear hR hne hI hb hP hk hs hq
  have hu36 := Try.underlying36
  have hu25 := Try.underlying25
  go_enter Try.func47, Try.ntmps47
  go_upto_region 1 with (first | ((with_reducible refine gate_dst (N := 1) rfl ?_); (try (refine gate_guard (by rfl) ?_; dsimp only)); refine box_event ?hg (N := 1) ?hd (cs := #[.int .i64 0, .string (⟨#[]⟩ : ByteArray), .slice none 0 0]) (t := 36) ?hr ?_; (case hd => rfl); (case hg => rfl); (case hr => first | (go_simp; done) | (go_simp; rfl)); intro Q hg_ w1 hbox_ hb_; have HX := Aside0.mk hbox_; have HXN := Aside0.mk hg_; have HXB := Aside0.mk hb_; clear hbox_ hg_ hb_))
  have HQW := Aside0.mk (show w.heap.size ≤ Q ∧ Q ≠ g by have h1 := HXN.out; have h2 := HGW.out; omega)
  have HR1 := Aside0.mk (blk_below HR.out HXB.out)
  have HL1 := Aside0.mk (HL0.out.up HXB.out)
  clear HL0 HXN HXB
  have hr0 := blk_cell HR1.out 0
  go_wp2_with fail
  refine (num_calls' k P w1 g l b HL1.out.rd HL1.out.by_ HK.out).mono ?_
  rintro e w2 ⟨rfl, hI, hb, hkk⟩
  have HL2 := Aside0.mk (HL1.out.trans (Lv.mk (n := l.length) (q := (aft l, badOf l b)) hI HY.out.1 HY.out.2.1 hb hkk) (Nat.le_refl _))
  have HX2 := Aside0.mk (hkk.blk HX.out HQW.out.2 (by simp))
  have HR2 := Aside0.mk (hkk.blk HR1.out HNE.out (by simp))
  clear hI hb hkk HL1 HX HR1 hr0
  have hq0 := blk_cell HX2.out 0
  have hf0 := blk_frozen HX2.out 0
  go_upto_region 2 with (fail)
  have n1_ := Aside0.mk (blk_put (cs' := #[.int .i64 k, .string (⟨#[]⟩ : ByteArray), .slice none 0 0]) HX2.out 0 (.int .i64 k) rfl)
  have n2_ := Aside0.mk (HL2.out.set HGW.out HPP.out HQW.out.1 0 (.int .i64 k))
  clear HX2 HL2 HR2 hq0 hf0
  generalize w2.setCell ⟨Q, 0, none⟩ (.int .i64 k) = w3 at n1_ n2_ ⊢
  have HX3 := n1_
  have HL3 := n2_
  clear n1_ n2_
  have HR3 := Aside0.mk (HL3.out.keep.blk HR.out HNE.out (by simp))
  have hr0 := blk_cell HR3.out 0
  have HTX := Aside0.mk (text_calls P w3 g (aft l) (badOf l b) HL3.out.rd HY.out.1)
  rw [HS.out] at HTX
  go_wp2_with fail
  refine HTX.out.mono ?_
  rintro e w4 ⟨rfl, hI, hb, hkk⟩
  have HL4 := Aside0.mk (HL3.out.trans (Lv.mk (n := (aft l).length) (q := (aftT (aft l), badT (aft l) (badOf l b))) hI HY.out.2.2.1 HY.out.2.2.2 hb hkk) HY.out.2.1)
  have HX4 := Aside0.mk (hkk.blk HX3.out HQW.out.2 (by simp))
  clear hI hb hkk HL3 HX3 HR3 hr0 HTX
  have hq0 := blk_cell HX4.out 1
  have hf0 := blk_frozen HX4.out 1
  go_upto_region 3 with (fail)
  have n1_ := Aside0.mk (blk_put (cs' := #[.int .i64 k, .string s, .slice none 0 0]) HX4.out 1 (.string s) rfl)
  have n2_ := Aside0.mk (HL4.out.set HGW.out HPP.out HQW.out.1 1 (.string s))
  clear HX4 HL4 hq0 hf0
  generalize w4.setCell ⟨Q, 1, none⟩ (.string s) = w5 at n1_ n2_ ⊢
  have HX5 := n1_
  have HL5 := n2_
  clear n1_ n2_
  have HR5 := Aside0.mk (HL5.out.keep.blk HR.out HNE.out (by simp))
  have hr0 := blk_cell HR5.out 0
  go_wp2_with fail
  refine (takeQ_calls P w5 g (aftT (aft l)) (badT (aft l) (badOf l b)) HL5.out.rd HY.out.2.2.1 (fun k hk => Nat.lt_of_lt_of_le (HPP.out k hk) HL5.out.keep.1) _ HQ.out).mono ?_
  rintro e w6 ⟨v, rfl, hS, hL⟩
  obtain ⟨A, cc, ev⟩ := Kd.S_slice hS
  subst ev
  have HS6 := Aside0.mk (Kd.S_lower hS HL5.out.keep.1)
  have HX6 := Aside0.mk (hL.keep.blk HX5.out HQW.out.2 (by simp))
  have HL6 := Aside0.mk (HL5.out.trans hL HL5.out.len)
  clear hS hL HL5 HX5 HR5 hr0
  go_upto_region 4 with (first | ((with_reducible refine gate_dst (N := 3) rfl ?_); (try (refine gate_guard (by rfl) ?_; dsimp only)); refine box_event ?hg (N := 3) ?hd (cs := #[.slice none 0 0]) (t := 25) ?hr ?_; (case hd => rfl); (case hg => rfl); (case hr => first | (go_simp; done) | (go_simp; rfl)); intro E hg_ w7 hbox_ hb_; have HE := Aside0.mk hbox_; have HEN := Aside0.mk hg_; have HEB := Aside0.mk hb_; clear hbox_ hg_ hb_; have he0 := blk_cell HE.out 0; have hf0 := blk_frozen HE.out 0))
  have HEW := Aside0.mk (show w.heap.size ≤ E ∧ E ≠ Q by
    have h1 := HEN.out
    have h2 := blk_lt HX6.out
    have h3 := HL6.out.keep.1
    omega)
  have n1_ := Aside0.mk (S_set (Kd.S_below HS6.out HEB.out) HE.out (by decide) 0 (.slice A m.length cc))
  have n2_ := Aside0.mk (blk_far (blk_below HX6.out HEB.out) (Ne.symm HEW.out.2) (p := ⟨E, 0, none⟩) (.slice A m.length cc))
  have n3_ := Aside0.mk ((HL6.out.up HEB.out).set HGW.out HPP.out HEW.out.1 0 (.slice A m.length cc))
  have n4_ := Aside0.mk (blk_put (cs' := #[.slice A m.length cc]) HE.out 0 (.slice A m.length cc) rfl)
  clear HS6 HX6 HL6 HE HEN HEB he0 hf0
  generalize w7.setCell ⟨E, 0, none⟩ (.slice A m.length cc) = w8 at n1_ n2_ n3_ n4_ ⊢
  have he0 := blk_cell n4_.out 0
  have hq2 := blk_cell n2_.out 2
  have hf2 := blk_frozen n2_.out 2
  go_upto_region 5 with (fail)
  have m1_ := Aside0.mk (S_set n1_.out n2_.out (by decide) 2 (.slice A m.length cc))
  have m2_ := Aside0.mk (blk_put (cs' := #[.int .i64 k, .string s, .slice A m.length cc]) n2_.out 2 (.slice A m.length cc) rfl)
  have m3_ := Aside0.mk (n3_.out.set HGW.out HPP.out HQW.out.1 2 (.slice A m.length cc))
  clear n1_ n2_ n3_ n4_ he0 hq2 hf2
  generalize w8.setCell ⟨Q, 2, none⟩ (.slice A m.length cc) = w9 at m1_ m2_ m3_ ⊢
  have hq0 := blk_cell m2_.out 0
  have hq1 := blk_cell m2_.out 1
  have hq2 := blk_cell m2_.out 2
  have hf0 := blk_frozen m2_.out 0
  have hf1 := blk_frozen m2_.out 1
  have hf2 := blk_frozen m2_.out 2
  have hbc : (c == 0) = decide (c = 0) := rfl
  go_wp2_with fail
  have HE9 := blk_put (cs' := #[.int .i64 k, .string s, .slice A m.length cc]) (blk_put (cs' := #[.int .i64 k, .string s, .slice A m.length cc]) (blk_put (cs' := #[.int .i64 k, .string s, .slice A m.length cc]) m2_.out 0 (.int .i64 k) rfl) 1 (.string s) rfl) 2 (.slice A m.length cc) rfl
  refine bodyPost_ret (results_ct rfl _ _ Q 36 _ (0, 0) _ rfl HE9 Try.underlying36 rfl (by kernel_rfl)) rfl ?_
  rw [HST.out]
  exact ⟨.slice A m.length cc, rfl, R_setA3 (Kd.S_R m1_.out) m2_.out (by decide) _ _ _, ((m3_.out.set HGW.out HPP.out HQW.out.1 0 _).set HGW.out HPP.out HQW.out.1 1 _).set HGW.out HPP.out HQW.out.1 2 _⟩
theorem defs_calls (P : Nat → Prop) (w : World) (g Rb : Nat) (l : List Int) (b : Bool) (hR : w.heap[Rb]? = some (.cells #[.pointer (some ⟨g, 0, none⟩)] 44 (0, 0))) (hne : Rb ≠ g) (hI : Rd 71 P w g l b) (hb : isBytes l) (hP : ∀ k, P k → k < w.heap.size) (r : (List S36 × Bool) × List Int × Bool) (hr : takeL stepD 4 l b = r) :
    Calls Try.prog 46 #[.pointer (some ⟨g, 0, none⟩), .int .i64 4, .func (.func 47) #[] #[.pointer (some ⟨Rb, 0, none⟩)]] w fun e w' =>
      ∃ v, e = .returned (.tuple #[v, .bool r.1.2]) ∧ Kd.S k36 36 w' w.heap.size (fun _ => True) v r.1.1 ∧ Lv w w' P g l.length r.2 :=
  takenDef_calls stepD 4 47 _ P w g l b hI hb hP (by decide) (by decide) (enters_of Try.func47 (by kernel_rfl) rfl) (fun w1 l1 b1 hL => defClo_calls P w1 g Rb l1 b1 (hL.keep.blk hR hne (by simp)) hne hL.rd hL.by_ (fun k hk => Nat.lt_of_lt_of_le (hP k hk) hL.keep.1)) r hr
end Go.Proofs.Ytdpigeineephlaa.Prt
namespace Go.Proofs.Ytdpigeineephlaa.Prt
open Go.RowKit Go.Proofs.YtdpigeineephlaaW.PrintWords Go.Proofs.YtdpigeineephlaaW.PrintLast Go.Proofs.YtdpigeineephlaaW.PrintMore Go.Proofs.Ytdpigeineephlaa.Num Go.Proofs.Ytdpigeineephlaa.Nam
set_option linter.unusedVariables false
set_option linter.unusedSimpArgs false

theorem takeDs_calls (A0 : Option Addr) (c0 : Nat) (l0 : List Int) (w : World) (hr0 : Kd.C (Kd.int .u8) w A0 l0.length l0) (hc0 : l0.length ≤ c0) (hby : isBytes l0) (r1 : List S36) (r2 : Int) (h : takeDs l0 = (r1, r2)) :
    Calls Try.prog 23 #[.slice A0 l0.length c0] w fun e w' => ∃ v0_ : Value, e = .returned (.tuple #[v0_, .int .i64 r2]) ∧ Kd.S k36 36 w' w.heap.size (fun _ => True) v0_ r1 ∧ Below w.heap.size w w' := by
  have HLE := Aside0.mk (takeL_left (stepD_left 9223372036854775807) 4 (by decide) l0 false hby (Kd.C_max hr0))
  obtain ⟨⟨⟨m, ok⟩, l1, b1⟩, hq⟩ : ∃ q, takeL stepD 4 l0 false = q := ⟨_, rfl⟩
  rw [hq] at HLE
  obtain ⟨⟨p, pe⟩, hp⟩ : ∃ q, putDs m = q := ⟨_, rfl⟩
  have HST : Aside0 ((r1, r2) = if ok = false ∨ pe ≠ 0 ∨ p ≠ l0 then ([], 2) else (m, 0)) := ⟨by rw [← h]; unfold takeDs; rw [hq]; simp only; rw [hp]⟩
  have HFIT := Aside0.mk (show qcode_PutDefs.f m = some (p, pe) by
    rw [← hp]
    exact if_pos (List.all_eq_true.2 fun x hx => fitD_iff.2 ⟨List.all_eq_true.2 fun y hy => fitC_iff.2 ((HLE.out.2.2.1 x hx).2 y hy), (HLE.out.2.2.1 x hx).1⟩))
  have HPB : Aside0 (isBytes p) := ⟨by
    have := congrArg (fun z => z.1) hp
    simp only at this
    rw [← this]
    unfold putDs
    split
    · intro c hc; simp at hc
    · split
      · intro c hc; simp at hc
      · exact encDs_bytes _⟩
  have HR0 := Aside0.mk hr0
  have HC0 := Aside0.mk hc0
  have HBY := Aside0.mk hby
  have HQ := Aside0.mk hq
  clear hr0 hc0 hby h hq hp
  go_enter Try.func23, Try.ntmps23
  go_wp2_with fail
  refine (newReader_calls A0 c0 l0 w HR0.out HC0.out).mono ?_
  rintro e w1 ⟨g, rfl, hI, hb, hg⟩
  have HI1 := Aside0.mk hI
  have HB1 := Aside0.mk hb
  have HG := Aside0.mk hg
  clear hI hb hg
  go_upto_region 2 with (first | ((with_reducible refine gate_dst (N := 4) rfl ?_); (try (refine gate_guard (by rfl) ?_; dsimp only)); refine box_event ?hg (N := 4) ?hd (cs := #[.pointer none]) (t := 44) ?hr ?_; (case hd => rfl); (case hg => rfl); (case hr => first | (go_simp; done) | (go_simp; rfl)); intro Rb hg_ w2 hbox_ hb_; have HX := Aside0.mk hbox_; have HXN := Aside0.mk hg_; have HXB := Aside0.mk hb_; clear hbox_ hg_ hb_; have hx0 := blk_cell HX.out 0; have hf0 := blk_frozen HX.out 0))
  have HRW := Aside0.mk (show w.heap.size ≤ Rb ∧ Rb ≠ g by
    have h1 := HXN.out
    have h2 := HI1.out.lt
    have h3 := HB1.out.size
    omega)
  have n1_ := Aside0.mk (blk_put (cs' := #[.pointer (some ⟨g, 0, none⟩)]) HX.out 0 (.pointer (some ⟨g, 0, none⟩)) rfl)
  have n2_ := Aside0.mk ((HI1.out.below HXB.out).kept ((KeepBut.refl _ Rb none).set_ 0 (.pointer (some ⟨g, 0, none⟩))) (Ne.symm HRW.out.2) (by have := HRW.out.1; omega))
  have n3_ := Aside0.mk ((below_step HB1.out HXB.out).setCell (p := ⟨Rb, 0, none⟩) HRW.out.1 (.pointer (some ⟨g, 0, none⟩)))
  clear HI1 HB1 HX HXN HXB hx0 hf0
  generalize w2.setCell ⟨Rb, 0, none⟩ (.pointer (some ⟨g, 0, none⟩)) = w3 at n1_ n2_ n3_ ⊢
  have HR3 := n1_
  have HI3 := n2_
  have HB3 := n3_
  clear n1_ n2_ n3_
  have hr0 := blk_cell HR3.out 0
  go_wp2_with fail
  refine (defs_calls _ w3 g Rb l0 false HR3.out HRW.out.2 HI3.out HBY.out (fun k hk => Nat.lt_of_lt_of_le hk HB3.out.size) _ HQ.out).mono ?_
  rintro e w4 ⟨v, rfl, hS, hL⟩
  obtain ⟨A, c, ev⟩ := Kd.S_slice hS
  subst ev
  have HB4 := Aside0.mk (HB3.out.trans (hL.below.mono HG.out))
  have HS4 := Aside0.mk (Kd.S_lower hS HB3.out.size)
  clear hS hL HR3 HI3 HB3 hr0
  obtain ⟨-, hc, hC⟩ := Kd.S_reads' HS4.out
  have HPT := Aside0.mk (qcode_PutDefs.calls A c m p pe w4 hC hc HFIT.out)
  clear hC hc
  go_wp2_with fail
  refine HPT.out.mono ?_
  rintro e w5 ⟨vp, rfl, hR, hb⟩
  have HS5 := Aside0.mk (Kd.S_below HS4.out hb)
  have HB5 := Aside0.mk (below_step HB4.out hb)
  obtain ⟨Ap, cp, ep⟩ := Kd.R_slice hR
  subst ep
  obtain ⟨-, hcp, hCp⟩ := Kd.R_reads' hR
  have HCP := Aside0.mk hcp
  have HRP := Aside0.mk hCp
  clear HS4 HB4 HPT hb hR hcp hCp
  cases ok with
  | false =>
    have HS2 := Aside0.mk (HST.out.trans (if_pos (.inl rfl)))
    clear HST
    go_wp2_with fail
    go_ret2
    obtain ⟨rfl, rfl⟩ := Prod.mk.inj HS2.out
    exact ⟨_, rfl, Kd.S_nil _ _ _ _ _, HB5.out⟩
  | true =>
    by_cases h0 : pe = 0
    · have hbn : (pe != 0) = false := bne_eq_false_iff_eq.mpr h0
      have H0 := Aside0.mk h0
      clear h0
      go_wp2_with fail
      refine (equal_calls Ap cp p A0 c0 l0 w5 HRP.out HCP.out (Kd.C_below HR0.out HB5.out) HC0.out HPB.out HBY.out).mono ?_
      rintro e w6 ⟨rfl, rfl⟩
      by_cases hpl : p = l0
      · have b4 : decide (p = l0) = true := decide_eq_true hpl
        have HS2 := Aside0.mk (HST.out.trans (if_neg (by rw [not_or, not_or]; exact ⟨by simp, by simpa using H0.out, by simpa using hpl⟩)))
        rw [b4]
        clear b4 hpl HST
        go_wp2_with fail
        go_ret2
        obtain ⟨rfl, rfl⟩ := Prod.mk.inj HS2.out
        exact ⟨_, rfl, HS5.out, HB5.out⟩
      · have b4 : decide (p = l0) = false := decide_eq_false hpl
        have HS2 := Aside0.mk (HST.out.trans (if_pos (.inr (.inr hpl))))
        rw [b4]
        clear b4 hpl HST
        go_wp2_with fail
        go_ret2
        obtain ⟨rfl, rfl⟩ := Prod.mk.inj HS2.out
        exact ⟨_, rfl, Kd.S_nil _ _ _ _ _, HB5.out⟩
    · have hbn : (pe != 0) = true := bne_iff_ne.mpr h0
      have HS2 := Aside0.mk (HST.out.trans (if_pos (.inr (.inl h0))))
      clear HST h0
      go_wp2_with fail
      go_ret2
      obtain ⟨rfl, rfl⟩ := Prod.mk.inj HS2.out
      exact ⟨_, rfl, Kd.S_nil _ _ _ _ _, HB5.out⟩
end Go.Proofs.Ytdpigeineephlaa.Prt
namespace Go.Proofs.Ytdpigeineephlaa.Gen
open Go.RowKit Go.Proofs.YtdpigeineephlaaW.PrintWords Go.Proofs.YtdpigeineephlaaW.PrintLast Go.Proofs.YtdpigeineephlaaW.PrintMore
set_option linter.unusedVariables false
set_option linter.unusedSimpArgs false

section
variable {P : Program} {t e : TypeId}
end
end Go.Proofs.Ytdpigeineephlaa.Gen
namespace Go.Proofs.Ytdpigeineephlaa.Gen
open Go.RowKit Go.Proofs.YtdpigeineephlaaW.PrintWords Go.Proofs.YtdpigeineephlaaW.PrintLast Go.Proofs.YtdpigeineephlaaW.PrintMore Go.Proofs.Ytdpigeineephlaa.Prt
set_option linter.unusedVariables false
set_option linter.unusedSimpArgs false
end Go.Proofs.Ytdpigeineephlaa.Gen
namespace Go.Proofs.Ytdpigeineephlaa.Gen
open Go.RowKit Go.Proofs.YtdpigeineephlaaW.PrintWords Go.Proofs.YtdpigeineephlaaW.PrintLast Go.Proofs.YtdpigeineephlaaW.PrintMore Go.Proofs.Ytdpigeineephlaa.Prt
set_option linter.unusedVariables false
set_option linter.unusedSimpArgs false
end Go.Proofs.Ytdpigeineephlaa.Gen

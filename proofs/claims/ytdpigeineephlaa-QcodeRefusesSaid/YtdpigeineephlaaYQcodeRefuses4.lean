/- Functions of the program, told as plain functions, with their walks: written by a program of this claim's out of the translation. Queries and projections: the document's example; what few and some answer; their bytes are told apart. The statements QcodePuts and QcodeRefuses, of plain functions. Arguments of any shape, opened: what reads as data lies in memory as a list, a struct, a text .. Arguments that are texts and numbers, opened. Arguments that are queries and projections, opened. The statement QcodeRefuses: the walk of the law. -/
import Derived.ChangeArms
import Derived.OpenShut
import Derived.DataReads
import Derived.Deep.Slices
import Derived.Test.YtdpigeineephlaaYQcodeRefuses1
import Derived.Test.YtdpigeineephlaaYQcodeRefuses2
import Derived.Test.YtdpigeineephlaaYQcodeRefuses3
namespace Go.Proofs.Ytdpigeineephlaa.Prt
open Go.RowKit Go.Proofs.YtdpigeineephlaaW.PrintWords Go.Proofs.YtdpigeineephlaaW.PrintLast Go.Proofs.YtdpigeineephlaaW.PrintMore
attribute [local go_sem] max2_int min2_int max_two min_two max_three min_three max_four min_four   -- for this text's walks alone
set_option linter.unusedVariables false
set_option linter.unusedSimpArgs false

def registrarlaw07_some.l0 : Nat → List (S36) → List (S36) → Int → Option ((List (S36)))
  | 0, _, _, _ => none
  | k + 1, x0, x3, x4 => if x4 < (x0.length : Int) then (if x4 < 6 then (if 0 ≤ x4 then ((registrarlaw07_few.f k ((rd_T36 x0 x4).f2.f0)).bind fun t221 => (if x3.length < 2932031007402 then (registrarlaw07_some.l0 k x0 (x3 ++ [(⟨(rd_T36 x0 x4).f0, (rd_T36 x0 x4).f1, (⟨t221⟩ : S25)⟩ : S36)]) (wrap64 (x4 + 1))) else (none))) else (none)) else (some x3)) else (some x3)
def registrarlaw07_some.f (k : Nat) (l0 : List (S36)) : Option ((List (S36))) := registrarlaw07_some.l0 k l0 (([] : List (S36))) 0
set_option maxHeartbeats 8000000 in
set_option maxRecDepth 100000 in
theorem registrarlaw07_some.calls (k : Nat) (P0_ : Nat → Prop) (A0 : Option Addr) (c0 : Nat) (l0 : List (S36)) (r : List (S36)) (w : World) (hs0 : Kd.V k36 36 w w.heap.size (fun k_ => P0_ k_) (.slice A0 l0.length c0) l0) (h : registrarlaw07_some.f k l0 = some r) :
    Calls Try.prog 14 #[.slice A0 l0.length c0] w fun e w' => ∃ v0_ : Value, e = .returned (v0_) ∧ Kd.N k36 36 w' w.heap.size (fun k_ => (P0_ k_ ∨ w.heap.size ≤ k_)) v0_ r ∧ Below w.heap.size w w' := by
  have hu36 := Try.underlying36
  have hu25 := Try.underlying25
  have HO0 := Aside0.mk (show Kd.V k36 36 w w.heap.size (fun k_ => (P0_ k_ ∨ w.heap.size ≤ k_)) (.slice A0 l0.length c0) l0 from Kd.V_mono hs0 (fun k_ hk => .inl hk))
  have HB := Aside0.mk (Below.refl w.heap.size w)
  have H : (registrarlaw07_some.l0 k l0 (([] : List (S36))) 0) = some r := h
  clear h
  obtain ⟨y216, hy216⟩ : ∃ y_ : List (S36), y_ = (([] : List (S36))) := ⟨_, rfl⟩
  replace H : (registrarlaw07_some.l0 k l0 y216 0) = some r := by first | (rw [hy216]; with_reducible exact H) | (have H2_ := (Option.bind_some _ _).symm.trans H; rw [hy216]; with_reducible exact H2_) | (have H2_ := (Option.bind_some _ _).symm.trans H; with_reducible exact H2_) | with_reducible exact H | (rw [hy216]; exact H) | exact H
  have Ny216 := Aside0.mk hy216
  clear hy216
  have H' := Aside0.mk H
  clear H
  go_enter Try.func14, Try.ntmps14
  go_wp2_with (first | ((with_reducible refine gate_dst (N := 6) rfl ?_); refine Kd.N_lit k36 _ 36 ?hg (N' := 6) ?hd (xs := ([] : List (S36))) (inner := []) (ok := (fun k_ => (P0_ k_ ∨ w.heap.size ≤ k_))) (okp := (fun k_ => (P0_ k_ ∨ w.heap.size ≤ k_))) ?hr ?hp (fun _ hk => hk) ((show ∀ k_, w.heap.size ≤ k_ → (fun k_ => (P0_ k_ ∨ w.heap.size ≤ k_)) k_ from fun k_ hk => (.inr (Nat.le_trans (below_size (by repeat (first | (with_reducible first | exact HB.out | apply below_alloc | apply pw_below_drewN | apply below_drew1) | exact HB.out))) hk))) _ (Nat.le_refl _)) (Below.refl _ _) (Nat.le_refl _) (by simp) ?_; (case hd => rfl); (case hg => rfl); (case hr => first | (go_simp; done) | (go_simp; rfl)); (case hp => exact (Reps.none _ _)); intro v217 w2 ho3 hb hg_ hnew_; clear hg_ hnew_; (first | rw [← Ny216.out] at ho3 | (simp only [Int.reduceToNat] at ho3; rw [← Ny216.out] at ho3)); have n0_ := Aside0.mk (Kd.V_elder' (by (with_reducible repeat (first | apply Kd.V_alloc | apply Kd.V_drewN | apply Kd.V_drew)); exact HO0.out) (Kd.N_base ho3) hb); have n1_ := Aside0.mk (Kd.N_lower ho3 (below_size (by repeat (first | (with_reducible first | exact HB.out | apply below_alloc | apply pw_below_drewN | apply below_drew1) | exact HB.out)))); have n2_ := Aside0.mk (below_step (by repeat (first | (with_reducible first | exact HB.out | apply below_alloc | apply pw_below_drewN | apply below_drew1) | exact HB.out)) hb); clear HO0; clear HB; have HO0 := n0_; have HO218 := n1_; have HB := n2_; clear n0_ n1_ n2_; clear hb ho3))
  go_loopg [3, 4] k (fun kq v3 v4 w' => ∃ (x3_1 : List (S36)) (x4_1 : Int), v4 = .int .i64 x4_1 ∧ Aside0 (registrarlaw07_some.l0 kq l0 x3_1 x4_1 = some r) ∧ Aside0 (kq ≤ k) ∧ Aside0 (Kd.V k36 36 w' w.heap.size (fun k_ => (P0_ k_ ∨ w.heap.size ≤ k_) ∧ some k_ ≠ (v3 : Value).ownBlock) (.slice A0 l0.length c0) l0) ∧ Aside0 (Kd.N k36 36 w' w.heap.size (fun k_ => (P0_ k_ ∨ w.heap.size ≤ k_)) v3 x3_1) ∧ Aside0 (Below w.heap.size w w'))
  case atStart => exact ⟨(y216), (0), (by first | rfl | (simp; done) | (simp [*]; done)), H', ⟨Nat.le_refl _⟩, ⟨by (with_reducible repeat (first | apply Kd.V_alloc | apply Kd.V_drewN | apply Kd.V_drew)); exact HO0.out⟩, ⟨by (with_reducible repeat (first | apply Kd.N_alloc | apply Kd.N_drewN | apply Kd.N_drew)); exact HO218.out⟩, ⟨by repeat (first | (with_reducible first | exact HB.out | apply below_alloc | apply pw_below_drewN | apply below_drew1) | exact HB.out)⟩⟩
  case round =>
    clear H'
    try clear c1
    try clear p2
    obtain ⟨x3_1, x4_1, rfl, HA, HK1, HO_0, HO_3, HB⟩ := hrel
    cases gk with
    | zero => exact absurd HA.out (by simp [registrarlaw07_some.l0])
    | succ k1 =>
      have H := HA.out
      clear HA
      simp only [registrarlaw07_some.l0] at H
      by_cases c4 : x4_1 < (l0.length : Int)
      · rw [if_pos c4] at H
        have c4b0 : decide (x4_1 < (l0.length : Int)) = true := decide_eq_true c4
        clear c4
        by_cases c5 : x4_1 < 6
        · rw [if_pos c5] at H
          have c5b0 : decide (x4_1 < 6) = true := decide_eq_true c5
          clear c5
          by_cases c6 : 0 ≤ x4_1
          · rw [if_pos c6] at H
            have c6b0 : decide (0 ≤ x4_1) = true := decide_eq_true c6
            clear c6
            replace H := Option.bind_eq_some_iff.mp H
            obtain ⟨t221, A70, H⟩ := H
            replace H : (if x3_1.length < 2932031007402 then (registrarlaw07_some.l0 k1 l0 (x3_1 ++ [(⟨(rd_T36 l0 x4_1).f0, (rd_T36 l0 x4_1).f1, (⟨t221⟩ : S25)⟩ : S36)]) (wrap64 (x4_1 + 1))) else (none)) = some r := H
            have A7 := Aside0.mk A70
            clear A70
            by_cases c8 : x3_1.length < 2932031007402
            · rw [if_pos c8] at H
              have LMc8 := Aside0.mk c8
              clear c8
              obtain ⟨y224, hy224⟩ : ∃ y_ : List (S36), y_ = (x3_1 ++ [(⟨(rd_T36 l0 x4_1).f0, (rd_T36 l0 x4_1).f1, (⟨t221⟩ : S25)⟩ : S36)]) := ⟨_, rfl⟩
              replace H : (registrarlaw07_some.l0 k1 l0 y224 (wrap64 (x4_1 + 1))) = some r := by first | (rw [hy224]; with_reducible exact H) | (have H2_ := (Option.bind_some _ _).symm.trans H; rw [hy224]; with_reducible exact H2_) | (have H2_ := (Option.bind_some _ _).symm.trans H; with_reducible exact H2_) | with_reducible exact H | (rw [hy224]; exact H) | exact H
              have Ny224 := Aside0.mk hy224
              clear hy224
              have H' := Aside0.mk H
              clear H
              have p219 : 0 ≤ (x4_1 : Int) := of_decide_eq_true (by first | (with_reducible assumption) | assumption)
              have q219 : x4_1 < (l0.length : Int) := of_decide_eq_true (by first | (with_reducible assumption) | assumption)
              obtain ⟨ad219, A219_2, c219_2, e219, hx219_0, hx219_1, hx219_2, hl219_2, hi219_2⟩ := at_T36 (Kd.V_reads' HO_0.out).2.2 x4_1 p219 q219
              cases e219
              obtain ⟨ce219, hce219, hMe219, hcc219⟩ := Kd.V_get HO_0.out z36 x4_1 p219 (by first | exact q219 | exact of_decide_eq_true (by first | (with_reducible assumption) | assumption) | (have e_ := (Kd.V_reads' HO_0.out).1; omega))
              obtain ⟨ua219_2, uc219_2, rfl, ul219_2, ge219_2⟩ := k36_openF hMe219
              have hv219_2 := hcc219 2 _ rfl
              rw [add_field _ _ 2 (by omega)] at hv219_2
              replace hv219_2 := Option.some.inj (hv219_2.symm.trans hx219_2)
              injection hv219_2 with hva_ hvn_ hvc_
              rw [hva_] at ge219_2
              rw [hvc_] at ul219_2
              have HL219_2 := Aside0.mk (show Kd.V k60 60 _ w.heap.size _ _ ((rd_T36 l0 x4_1).f2.f0) from Kd.V_mk ul219_2 ge219_2)
              clear hva_ hvn_ hvc_ ge219_2 ul219_2
              clear hcc219 hce219
              have HR219_2 := Aside0.mk hi219_2
              have HC219_2 := Aside0.mk hl219_2
              clear hi219_2 hl219_2
              replace p219 := eq_true p219
              replace q219 := eq_true q219
              go_wp2_with (first | ((with_reducible refine gate_dst (N := 5) rfl ?_); refine box_event ?hg (N := 5) ?hd (cs := #[.int .i64 0, .string (⟨#[]⟩ : ByteArray), .slice none 0 0]) (t := 36) ?hr ?_; (case hd => rfl); (case hg => rfl); (case hr => first | (go_simp; done) | (go_simp; rfl)); intro gb220 hg w9 hbox hb; have n0_ := Aside0.mk (Kd.V_below (Kd.V_elderB (by (with_reducible repeat (first | apply Kd.V_alloc | apply Kd.V_drewN | apply Kd.V_drew)); exact HO_0.out) gb220 (Nat.le_of_eq hg.symm)) hb); have n1_ := Aside0.mk (Kd.N_below (Kd.N_elderB (by (with_reducible repeat (first | apply Kd.N_alloc | apply Kd.N_drewN | apply Kd.N_drew)); exact HO_3.out) gb220 (Nat.le_of_eq hg.symm)) hb); have n2_ := Aside0.mk (Kd.V_below (Kd.V_elderB (by (with_reducible repeat (first | apply Kd.V_alloc | apply Kd.V_drewN | apply Kd.V_drew)); exact HL219_2.out) gb220 (Nat.le_of_eq hg.symm)) hb); have n3_ := Aside0.mk (Kd.C_below (by repeat (first | (with_reducible exact HR219_2.out) | (with_reducible refine Kd.C_alloc ?_ _) | (with_reducible refine Kd.C_drewN ?_ _) | (with_reducible refine Kd.C_drew ?_) | exact HR219_2.out | exact (Kd.V_reads' HL219_2.out).2.2)) hb); have n4_ := Aside0.mk (below_step (by repeat (first | (with_reducible first | exact HB.out | apply below_alloc | apply pw_below_drewN | apply below_drew1) | exact HB.out)) hb); have n5_ := Aside0.mk (hbox); have n6_ := Aside0.mk ((by rw [hg]; exact (below_size (by repeat (first | (with_reducible first | exact HB.out | apply below_alloc | apply pw_below_drewN | apply below_drew1) | exact HB.out))) : w.heap.size ≤ gb220)); have n7_ := Aside0.mk ((by rw [hg]; exact (below_size (by repeat (first | (with_reducible first | exact HB.out | apply below_alloc | apply pw_below_drewN | apply below_drew1) | exact HB.out))) : w.heap.size ≤ gb220)); clear HO_0; clear HO_3; clear HL219_2; clear HR219_2; clear HB; have HO_0 := n0_; have HO_3 := n1_; have HL219_2 := n2_; have HR219_2 := n3_; have HB := n4_; have BK220 := n5_; have GW220 := n6_; have GE220 := n7_; clear n0_ n1_ n2_ n3_ n4_ n5_ n6_ n7_; clear hb hbox hg; have hcz10_0 : w9.cell? ⟨gb220, 0, none⟩ = some (.int .i64 0) := (blk_cell BK220.out 0).trans rfl; have hcz10_1 : w9.cell? ⟨gb220, 1, none⟩ = some (.string (⟨#[]⟩ : ByteArray)) := (blk_cell BK220.out 1).trans rfl; have hcz10_2 : w9.cell? ⟨gb220, 2, none⟩ = some (.slice none 0 0) := (blk_cell BK220.out 2).trans rfl; have hfz10_0 := blk_frozen BK220.out 0; have hfz10_1 := blk_frozen BK220.out 1; have hfz10_2 := blk_frozen BK220.out 2) | ((with_reducible refine gate_store (t := 36) (p := 5) rfl ?_); refine store_event (t := 36) (p := 5) (v := ?vo_w11) (w1 := (((w9.setCell ⟨gb220, 0, none⟩ (.int .i64 ((rd_T36 l0 x4_1).f0))).setCell ⟨gb220, 1, none⟩ (.string ((rd_T36 l0 x4_1).f1))).setCell ⟨gb220, 2, none⟩ (.slice A219_2 ((rd_T36 l0 x4_1).f2.f0).length c219_2))) ?hg ?ho ?hn ?hr ?_; (case ho => rfl); (case hg => rfl); (case hn => rfl); (case hr => first | (go_simp; done) | (go_simp; rfl)); intro w11 hw; have n0_ : Aside0 (Kd.V k36 36 w11 w.heap.size (fun k_ => (P0_ k_ ∨ w.heap.size ≤ k_) ∧ some k_ ≠ (u3 : Value).ownBlock ∧ k_ ≠ gb220) (.slice (some ad219) l0.length c0) l0) := ⟨(by rw [hw]; exact (by (with_reducible repeat (first | apply Kd.V_alloc | apply Kd.V_drewN | apply Kd.V_drew)); exact Kd.V_mono (Kd.V_far (p := ⟨gb220, 2, none⟩) (Kd.V_far (p := ⟨gb220, 1, none⟩) (Kd.V_far (p := ⟨gb220, 0, none⟩) (Kd.V_mono HO_0.out (fun k_ hk => (⟨hk, hk.2⟩ : _ ∧ k_ ≠ gb220))) (fun _ hk => hk.2) (.int .i64 ((rd_T36 l0 x4_1).f0))) (fun _ hk => hk.2) (.string ((rd_T36 l0 x4_1).f1))) (fun _ hk => hk.2) (.slice A219_2 ((rd_T36 l0 x4_1).f2.f0).length c219_2)) (fun _ hk => ⟨hk.1.1.1, ⟨hk.1.1.2, hk.1.2⟩⟩)))⟩; have n1_ : Aside0 (Kd.N k36 36 w11 w.heap.size (fun k_ => (P0_ k_ ∨ w.heap.size ≤ k_) ∧ k_ ≠ gb220) u3 x3_1) := ⟨(by rw [hw]; exact (by (with_reducible repeat (first | apply Kd.N_alloc | apply Kd.N_drewN | apply Kd.N_drew)); exact Kd.N_mono (Kd.N_far (p := ⟨gb220, 2, none⟩) (Kd.N_far (p := ⟨gb220, 1, none⟩) (Kd.N_far (p := ⟨gb220, 0, none⟩) (Kd.N_mono HO_3.out (fun k_ hk => (⟨hk, hk.2⟩ : _ ∧ k_ ≠ gb220))) (fun _ hk => hk.2) (.int .i64 ((rd_T36 l0 x4_1).f0))) (fun _ hk => hk.2) (.string ((rd_T36 l0 x4_1).f1))) (fun _ hk => hk.2) (.slice A219_2 ((rd_T36 l0 x4_1).f2.f0).length c219_2)) (fun _ hk => ⟨hk.1.1, hk.1.2⟩)))⟩; have n2_ : Aside0 (Kd.V k60 60 w11 w.heap.size (fun k_ => (P0_ k_ ∨ w.heap.size ≤ k_) ∧ some k_ ≠ (u3 : Value).ownBlock ∧ k_ ≠ gb220) (.slice A219_2 ((rd_T36 l0 x4_1).f2.f0).length c219_2) ((rd_T36 l0 x4_1).f2.f0)) := ⟨(by rw [hw]; exact (by (with_reducible repeat (first | apply Kd.V_alloc | apply Kd.V_drewN | apply Kd.V_drew)); exact Kd.V_mono (Kd.V_far (p := ⟨gb220, 2, none⟩) (Kd.V_far (p := ⟨gb220, 1, none⟩) (Kd.V_far (p := ⟨gb220, 0, none⟩) (Kd.V_mono HL219_2.out (fun k_ hk => (⟨hk, hk.2⟩ : _ ∧ k_ ≠ gb220))) (fun _ hk => hk.2) (.int .i64 ((rd_T36 l0 x4_1).f0))) (fun _ hk => hk.2) (.string ((rd_T36 l0 x4_1).f1))) (fun _ hk => hk.2) (.slice A219_2 ((rd_T36 l0 x4_1).f2.f0).length c219_2)) (fun _ hk => ⟨hk.1.1.1, ⟨hk.1.1.2, hk.1.2⟩⟩)))⟩; have n3_ : Aside0 (w11.heap[gb220]? = some (.cells #[.int .i64 ((rd_T36 l0 x4_1).f0), .string ((rd_T36 l0 x4_1).f1), .slice A219_2 ((rd_T36 l0 x4_1).f2.f0).length c219_2] 36 (0, 0))) := ⟨(by rw [hw]; exact (by (with_reducible repeat (first | refine blk_drewN ?_ _ | refine blk_drew ?_ | refine blk_alloc ?_ _)); refine blk_put (cs := #[.int .i64 ((rd_T36 l0 x4_1).f0), .string ((rd_T36 l0 x4_1).f1), .slice none 0 0]) ?_ 2 _ rfl; (with_reducible repeat (first | refine blk_drewN ?_ _ | refine blk_drew ?_ | refine blk_alloc ?_ _)); refine blk_put (cs := #[.int .i64 ((rd_T36 l0 x4_1).f0), .string (⟨#[]⟩ : ByteArray), .slice none 0 0]) ?_ 1 _ rfl; (with_reducible repeat (first | refine blk_drewN ?_ _ | refine blk_drew ?_ | refine blk_alloc ?_ _)); refine blk_put (cs := #[.int .i64 0, .string (⟨#[]⟩ : ByteArray), .slice none 0 0]) ?_ 0 _ rfl; (with_reducible repeat (first | refine blk_drewN ?_ _ | refine blk_drew ?_ | refine blk_alloc ?_ _)); exact BK220.out))⟩; have n4_ : Aside0 (Below w.heap.size w w11) := ⟨(by rw [hw]; exact (by repeat (first | (with_reducible first | exact HB.out | apply below_alloc | apply pw_below_drewN | apply below_drew1 | refine below_set ?_ GE220.out) | exact HB.out)))⟩; clear hw; clear HO_0; clear HO_3; clear HL219_2; clear BK220; clear HB; have HO_0 := n0_; have HO_3 := n1_; have HL219_2 := n2_; have BK220 := n3_; have HB := n4_; clear n0_ n1_ n2_ n3_ n4_; have hcz12_0 : w11.cell? ⟨gb220, 0, none⟩ = some (.int .i64 ((rd_T36 l0 x4_1).f0)) := (blk_cell BK220.out 0).trans rfl; have hcz12_1 : w11.cell? ⟨gb220, 1, none⟩ = some (.string ((rd_T36 l0 x4_1).f1)) := (blk_cell BK220.out 1).trans rfl; have hcz12_2 : w11.cell? ⟨gb220, 2, none⟩ = some (.slice A219_2 ((rd_T36 l0 x4_1).f2.f0).length c219_2) := (blk_cell BK220.out 2).trans rfl; have hfz12_0 := blk_frozen BK220.out 0; have hfz12_1 := blk_frozen BK220.out 1; have hfz12_2 := blk_frozen BK220.out 2) | ((with_reducible refine gate_callee (f := 11) rfl ?_); refine goesL_ (some 23) rfl rfl Try.func11 (by kernel_rfl) rfl #[.agg #[.slice A219_2 ((rd_T36 l0 x4_1).f2.f0).length c219_2]] rfl (by (try simp only [List.map_toArray, List.map_cons, List.map_nil]); first | done | rfl | (simp only [List.length_drop, List.length_take]; rfl)) ?_; (with_reducible refine (registrarlaw07_few.calls k1 (fun k_ => ((P0_ k_ ∨ w.heap.size ≤ k_) ∧ (some k_ ≠ (u3 : Value).ownBlock ∧ k_ ≠ gb220))) _ _ ((rd_T36 l0 x4_1).f2.f0) t221 _ ?side1 A7.out).mono ?_); (case side1 => exact HL219_2.out); rintro e w13 ⟨v222, rfl, ho0, hb⟩; refine ⟨_, rfl, ?_⟩; have n0_ := Aside0.mk (Kd.V_elder' (by (with_reducible repeat (first | apply Kd.V_alloc | apply Kd.V_drewN | apply Kd.V_drew)); exact HO_0.out) (Kd.N_base ho0) hb); have n1_ := Aside0.mk (Kd.N_elder' (by (with_reducible repeat (first | apply Kd.N_alloc | apply Kd.N_drewN | apply Kd.N_drew)); exact HO_3.out) (Kd.N_base ho0) hb); have n2_ := Aside0.mk (Kd.V_elder' (by (with_reducible repeat (first | apply Kd.V_alloc | apply Kd.V_drewN | apply Kd.V_drew)); exact HL219_2.out) (Kd.N_base ho0) hb); have n3_ := Aside0.mk (Kd.N_lower (Kd.N_mono (ok' := fun k_ => (P0_ k_ ∨ w.heap.size ≤ k_) ∧ some k_ ≠ (u3 : Value).ownBlock ∧ k_ ≠ gb220) ho0 (fun k_ hk_ => ⟨Or.elim hk_ (fun hs_ => hs_.1) (fun hn_ => (.inr (Nat.le_trans (below_size (by repeat (first | (with_reducible first | exact HB.out | apply below_alloc | apply pw_below_drewN | apply below_drew1 | refine below_set ?_ GE220.out) | exact HB.out))) hn_))), Or.elim hk_ (fun hs_ => hs_.2.1) (fun hn_ => (Kd.fresh' (Kd.N_lt (by (with_reducible repeat (first | apply Kd.N_alloc | apply Kd.N_drewN | apply Kd.N_drew)); exact HO_3.out)) k_ hn_)), Or.elim hk_ (fun hs_ => hs_.2.2) (fun hn_ => (Kd.freshB (g := gb220) (o := .cells #[.int .i64 ((rd_T36 l0 x4_1).f0), .string ((rd_T36 l0 x4_1).f1), .slice A219_2 ((rd_T36 l0 x4_1).f2.f0).length c219_2] 36 (0, 0)) (by (with_reducible repeat (first | refine blk_drewN ?_ _ | refine blk_drew ?_ | refine blk_alloc ?_ _)); exact BK220.out) k_ hn_))⟩)) (below_size (by repeat (first | (with_reducible first | exact HB.out | apply below_alloc | apply pw_below_drewN | apply below_drew1 | refine below_set ?_ GE220.out) | exact HB.out)))); have n4_ := Aside0.mk (Kd.C_below (by repeat (first | (with_reducible exact HR219_2.out) | (with_reducible refine Kd.C_alloc ?_ _) | (with_reducible refine Kd.C_drewN ?_ _) | (with_reducible refine Kd.C_drew ?_) | exact HR219_2.out | exact (Kd.V_reads' HL219_2.out).2.2)) hb); have n5_ := Aside0.mk (blk_below (g := gb220) (o := .cells #[.int .i64 ((rd_T36 l0 x4_1).f0), .string ((rd_T36 l0 x4_1).f1), .slice A219_2 ((rd_T36 l0 x4_1).f2.f0).length c219_2] 36 (0, 0)) (by (with_reducible repeat (first | refine blk_drewN ?_ _ | refine blk_drew ?_ | refine blk_alloc ?_ _)); exact BK220.out) hb); have n6_ := Aside0.mk (below_step (by repeat (first | (with_reducible first | exact HB.out | apply below_alloc | apply pw_below_drewN | apply below_drew1 | refine below_set ?_ GE220.out) | exact HB.out)) hb); clear HO_0; clear HO_3; clear HL219_2; clear HR219_2; clear BK220; clear HB; have HO_0 := n0_; have HO_3 := n1_; have HL219_2 := n2_; have HO223 := n3_; have HR219_2 := n4_; have BK220 := n5_; have HB := n6_; clear n0_ n1_ n2_ n3_ n4_ n5_ n6_; (try clear hb); (try clear hb2); (try clear hk); (try clear hi); (try clear ho0); obtain ⟨Ao14, co14, eo14⟩ := Kd.N_slice HO223.out; subst eo14; have hcz15_0 : w13.cell? ⟨gb220, 0, none⟩ = some (.int .i64 ((rd_T36 l0 x4_1).f0)) := (blk_cell BK220.out 0).trans rfl; have hcz15_1 : w13.cell? ⟨gb220, 1, none⟩ = some (.string ((rd_T36 l0 x4_1).f1)) := (blk_cell BK220.out 1).trans rfl; have hcz15_2 : w13.cell? ⟨gb220, 2, none⟩ = some (.slice A219_2 ((rd_T36 l0 x4_1).f2.f0).length c219_2) := (blk_cell BK220.out 2).trans rfl; have hfz15_0 := blk_frozen BK220.out 0; have hfz15_1 := blk_frozen BK220.out 1; have hfz15_2 := blk_frozen BK220.out 2) | ((with_reducible refine gate_store (t := 25) (p := 24) rfl ?_); refine store_event (t := 25) (p := 24) (v := ?vo_w16) (w1 := (w13.setCell ⟨gb220, 2, none⟩ (.slice Ao14 t221.length co14))) ?hg ?ho ?hn ?hr ?_; (case ho => rfl); (case hg => rfl); (case hn => rfl); (case hr => first | (go_simp; done) | (go_simp; rfl)); intro w16 hw; have n0_ : Aside0 (Kd.V k36 36 w16 w.heap.size (fun k_ => (P0_ k_ ∨ w.heap.size ≤ k_) ∧ some k_ ≠ (u3 : Value).ownBlock ∧ some k_ ≠ (.slice Ao14 t221.length co14 : Value).ownBlock ∧ k_ ≠ gb220) (.slice (some ad219) l0.length c0) l0) := ⟨(by rw [hw]; exact (by (with_reducible repeat (first | apply Kd.V_alloc | apply Kd.V_drewN | apply Kd.V_drew)); exact Kd.V_mono (Kd.V_far (p := ⟨gb220, 2, none⟩) (Kd.V_mono HO_0.out (fun k_ hk => (⟨hk, hk.1.2.2⟩ : _ ∧ k_ ≠ gb220))) (fun _ hk => hk.2) (.slice Ao14 t221.length co14)) (fun _ hk => ⟨hk.1.1.1, ⟨hk.1.1.2.1, ⟨hk.1.2, hk.1.1.2.2⟩⟩⟩)))⟩; have n1_ : Aside0 (Kd.N k36 36 w16 w.heap.size (fun k_ => (P0_ k_ ∨ w.heap.size ≤ k_) ∧ some k_ ≠ (.slice Ao14 t221.length co14 : Value).ownBlock ∧ k_ ≠ gb220) u3 x3_1) := ⟨(by rw [hw]; exact (by (with_reducible repeat (first | apply Kd.N_alloc | apply Kd.N_drewN | apply Kd.N_drew)); exact Kd.N_mono (Kd.N_far (p := ⟨gb220, 2, none⟩) (Kd.N_mono HO_3.out (fun k_ hk => (⟨hk, hk.1.2⟩ : _ ∧ k_ ≠ gb220))) (fun _ hk => hk.2) (.slice Ao14 t221.length co14)) (fun _ hk => ⟨hk.1.1.1, ⟨hk.1.2, hk.1.1.2⟩⟩)))⟩; have n2_ : Aside0 (Kd.V k60 60 w16 w.heap.size (fun k_ => (P0_ k_ ∨ w.heap.size ≤ k_) ∧ some k_ ≠ (u3 : Value).ownBlock ∧ some k_ ≠ (.slice Ao14 t221.length co14 : Value).ownBlock ∧ k_ ≠ gb220) (.slice A219_2 ((rd_T36 l0 x4_1).f2.f0).length c219_2) ((rd_T36 l0 x4_1).f2.f0)) := ⟨(by rw [hw]; exact (by (with_reducible repeat (first | apply Kd.V_alloc | apply Kd.V_drewN | apply Kd.V_drew)); exact Kd.V_mono (Kd.V_far (p := ⟨gb220, 2, none⟩) (Kd.V_mono HL219_2.out (fun k_ hk => (⟨hk, hk.1.2.2⟩ : _ ∧ k_ ≠ gb220))) (fun _ hk => hk.2) (.slice Ao14 t221.length co14)) (fun _ hk => ⟨hk.1.1.1, ⟨hk.1.1.2.1, ⟨hk.1.2, hk.1.1.2.2⟩⟩⟩)))⟩; have n3_ : Aside0 (Kd.N k60 60 w16 w.heap.size (fun k_ => (P0_ k_ ∨ w.heap.size ≤ k_) ∧ some k_ ≠ (u3 : Value).ownBlock ∧ k_ ≠ gb220) (.slice Ao14 t221.length co14) t221) := ⟨(by rw [hw]; exact (by (with_reducible repeat (first | apply Kd.N_alloc | apply Kd.N_drewN | apply Kd.N_drew)); exact Kd.N_mono (Kd.N_far (p := ⟨gb220, 2, none⟩) (Kd.N_mono HO223.out (fun k_ hk => (⟨hk, hk.2.2⟩ : _ ∧ k_ ≠ gb220))) (fun _ hk => hk.2) (.slice Ao14 t221.length co14)) (fun _ hk => ⟨hk.1.1, ⟨hk.1.2.1, hk.1.2.2⟩⟩)))⟩; have n4_ : Aside0 (w16.heap[gb220]? = some (.cells #[.int .i64 ((rd_T36 l0 x4_1).f0), .string ((rd_T36 l0 x4_1).f1), .slice Ao14 t221.length co14] 36 (0, 0))) := ⟨(by rw [hw]; exact (by (with_reducible repeat (first | refine blk_drewN ?_ _ | refine blk_drew ?_ | refine blk_alloc ?_ _)); refine blk_put (cs := #[.int .i64 ((rd_T36 l0 x4_1).f0), .string ((rd_T36 l0 x4_1).f1), .slice A219_2 ((rd_T36 l0 x4_1).f2.f0).length c219_2]) ?_ 2 _ rfl; (with_reducible repeat (first | refine blk_drewN ?_ _ | refine blk_drew ?_ | refine blk_alloc ?_ _)); exact BK220.out))⟩; have n5_ : Aside0 (Below w.heap.size w w16) := ⟨(by rw [hw]; exact (by repeat (first | (with_reducible first | exact HB.out | apply below_alloc | apply pw_below_drewN | apply below_drew1 | refine below_set ?_ GE220.out) | exact HB.out)))⟩; clear hw; clear HO_0; clear HO_3; clear HL219_2; clear HO223; clear BK220; clear HB; have HO_0 := n0_; have HO_3 := n1_; have HL219_2 := n2_; have HO223 := n3_; have BK220 := n4_; have HB := n5_; clear n0_ n1_ n2_ n3_ n4_ n5_; have hcz17_0 : w16.cell? ⟨gb220, 0, none⟩ = some (.int .i64 ((rd_T36 l0 x4_1).f0)) := (blk_cell BK220.out 0).trans rfl; have hcz17_1 : w16.cell? ⟨gb220, 1, none⟩ = some (.string ((rd_T36 l0 x4_1).f1)) := (blk_cell BK220.out 1).trans rfl; have hcz17_2 : w16.cell? ⟨gb220, 2, none⟩ = some (.slice Ao14 t221.length co14) := (blk_cell BK220.out 2).trans rfl; have hfz17_0 := blk_frozen BK220.out 0; have hfz17_1 := blk_frozen BK220.out 1; have hfz17_2 := blk_frozen BK220.out 2) | ((with_reducible refine gate_builtin (b := .append) (xs := #[.tmp 25, .tmp 27]) rfl ?_); at_builtin; refine Kd.N_append k36 (w0 := w) w.heap.size rfl (.tmp 25) (.tmp 27) 26 36 (.agg #[(.int .i64 0), (.string ⟨#[]⟩), (.slice none 0 0)]) 48 rfl Try.underlying26 info36 rfl (by decide) (by omega) u3 x3_1 (⟨(rd_T36 l0 x4_1).f0, (rd_T36 l0 x4_1).f1, (⟨t221⟩ : S25)⟩ : S36) [.int .i64 ((rd_T36 l0 x4_1).f0), .string ((rd_T36 l0 x4_1).f1), .slice Ao14 t221.length co14] (fun k_ => (P0_ k_ ∨ w.heap.size ≤ k_) ∧ k_ ≠ gb220) (fun k_ => ((fun k_ => (P0_ k_ ∨ w.heap.size ≤ k_) ∧ k_ ≠ gb220)) k_ ∧ some k_ ≠ (u3 : Value).ownBlock) rfl rfl ?aP (fun _ hk => hk) ?aF ?aO ?aB ?aS ?aL ?_; (case aP => exact (k36_mkF _ _ (⟨(rd_T36 l0 x4_1).f0, (rd_T36 l0 x4_1).f1, (⟨t221⟩ : S25)⟩ : S36) (Kd.N_reads' (Kd.N_mono (ok' := (fun k_ => ((fun k_ => (P0_ k_ ∨ w.heap.size ≤ k_) ∧ k_ ≠ gb220)) k_ ∧ some k_ ≠ (u3 : Value).ownBlock)) (HO223.out) (fun k_ hk => ⟨⟨hk.1, hk.2.2⟩, hk.2.1⟩))).2.1 (Kd.N_F (Kd.N_mono (ok' := (fun k_ => ((fun k_ => (P0_ k_ ∨ w.heap.size ≤ k_) ∧ k_ ≠ gb220)) k_ ∧ some k_ ≠ (u3 : Value).ownBlock)) (HO223.out) (fun k_ hk => ⟨⟨hk.1, hk.2.2⟩, hk.2.1⟩))))); (case aB => exact (by repeat (first | (with_reducible first | exact HB.out | apply below_alloc | apply pw_below_drewN | apply below_drew1 | refine below_set ?_ GE220.out) | exact HB.out))); (case aF => exact (fun k_ hk => ⟨(.inr (Nat.le_trans (below_size (by repeat (first | (with_reducible first | exact HB.out | apply below_alloc | apply pw_below_drewN | apply below_drew1 | refine below_set ?_ GE220.out) | exact HB.out))) hk)), Kd.freshB (g := gb220) (o := .cells #[.int .i64 ((rd_T36 l0 x4_1).f0), .string ((rd_T36 l0 x4_1).f1), .slice Ao14 t221.length co14] 36 (0, 0)) (by (with_reducible repeat (first | refine blk_drewN ?_ _ | refine blk_drew ?_ | refine blk_alloc ?_ _)); exact BK220.out) k_ hk⟩)); (case aO => exact (by (with_reducible repeat (first | apply Kd.N_alloc | apply Kd.N_drewN | apply Kd.N_drew)); exact Kd.N_mono HO_3.out (fun _ hk => ⟨hk.1, hk.2.2⟩))); (case aS => exact (below_size (by repeat (first | (with_reducible first | exact HB.out | apply below_alloc | apply pw_below_drewN | apply below_drew1 | refine below_set ?_ GE220.out) | exact HB.out)))); (case aL => have := LMc8.out; omega); intro v225 w18 ho hb hg hat; rw [← Ny224.out] at ho; have n0_ := Aside0.mk (Kd.V_afterv (ok := (fun k_ => (P0_ k_ ∨ w.heap.size ≤ k_) ∧ some k_ ≠ (.slice Ao14 t221.length co14 : Value).ownBlock ∧ k_ ≠ gb220)) (by (with_reducible repeat (first | apply Kd.V_alloc | apply Kd.V_drewN | apply Kd.V_drew)); exact Kd.V_mono HO_0.out (fun _ hk => ⟨⟨hk.1, ⟨hk.2.2.1, hk.2.2.2⟩⟩, hk.2.1⟩)) hg hat); have n1_ := Aside0.mk (Kd.V_afterv (ok := (fun k_ => (P0_ k_ ∨ w.heap.size ≤ k_) ∧ some k_ ≠ (.slice Ao14 t221.length co14 : Value).ownBlock ∧ k_ ≠ gb220)) (by (with_reducible repeat (first | apply Kd.V_alloc | apply Kd.V_drewN | apply Kd.V_drew)); exact Kd.V_mono HL219_2.out (fun _ hk => ⟨⟨hk.1, ⟨hk.2.2.1, hk.2.2.2⟩⟩, hk.2.1⟩)) hg hat); have n2_ := Aside0.mk (blk_grown (g := gb220) (o := .cells #[.int .i64 ((rd_T36 l0 x4_1).f0), .string ((rd_T36 l0 x4_1).f1), .slice Ao14 t221.length co14] 36 (0, 0)) (by (with_reducible repeat (first | refine blk_drewN ?_ _ | refine blk_drew ?_ | refine blk_alloc ?_ _)); exact BK220.out) hg (Kd.N_away HO_3.out (fun _ hk => hk.2.2))); have n3_ := Aside0.mk (hb); have n4_ := Aside0.mk (ho); clear HO_0; clear HL219_2; clear BK220; clear HB; clear HO_3; clear HO223; have HO_0 := n0_; have HL219_2 := n1_; have BK220 := n2_; have HB := n3_; have HO226 := n4_; clear n0_ n1_ n2_ n3_ n4_; clear ho hb hg hat))
              go_roundg k1
              case measure => have := HK1.out; omega
              case rel => exact ⟨(y224), (wrap64 (x4_1 + 1)), (by first | rfl | (simp; done) | (simp [*]; done)), H', ⟨by have := HK1.out; omega⟩, ⟨by (with_reducible repeat (first | apply Kd.V_alloc | apply Kd.V_drewN | apply Kd.V_drew)); exact Kd.V_mono HO_0.out (fun _ hk => ⟨hk.1.1, hk.2⟩)⟩, ⟨by (with_reducible repeat (first | apply Kd.N_alloc | apply Kd.N_drewN | apply Kd.N_drew)); exact Kd.N_mono HO226.out (fun _ hk => hk.1)⟩, ⟨by repeat (first | (with_reducible first | exact HB.out | apply below_alloc | apply pw_below_drewN | apply below_drew1 | refine below_set ?_ GE220.out) | exact HB.out)⟩⟩
            · rw [if_neg c8] at H
              exact absurd H (by simp)
          · rw [if_neg c6] at H
            exact absurd H (by simp)
        · rw [if_neg c5] at H
          have c5b0 : decide (x4_1 < 6) = false := decide_eq_false c5
          clear c5
          obtain rfl := Option.some.inj H
          go_wp2
          go_ret
          exact ⟨_, by first | rfl | (simp [errW_none, errW_some] <;> rfl) | (simp [*, errW_none, errW_some] <;> rfl), by (with_reducible repeat (first | apply Kd.N_alloc | apply Kd.N_drewN | apply Kd.N_drew)); exact HO_3.out, by repeat (first | (with_reducible first | exact HB.out | apply below_alloc | apply pw_below_drewN | apply below_drew1) | exact HB.out)⟩
      · rw [if_neg c4] at H
        have c4b0 : decide (x4_1 < (l0.length : Int)) = false := decide_eq_false c4
        clear c4
        obtain rfl := Option.some.inj H
        go_wp2
        go_ret
        exact ⟨_, by first | rfl | (simp [errW_none, errW_some] <;> rfl) | (simp [*, errW_none, errW_some] <;> rfl), by (with_reducible repeat (first | apply Kd.N_alloc | apply Kd.N_drewN | apply Kd.N_drew)); exact HO_3.out, by repeat (first | (with_reducible first | exact HB.out | apply below_alloc | apply pw_below_drewN | apply below_drew1) | exact HB.out)⟩

end Go.Proofs.Ytdpigeineephlaa.Prt
namespace Go.Proofs.Ytdpigeineephlaa.Prt
open Go.RowKit Go.Proofs.YtdpigeineephlaaW.PrintWords Go.Proofs.YtdpigeineephlaaW.PrintLast Go.Proofs.YtdpigeineephlaaW.PrintMore Go.Proofs.Ytdpigeineephlaa.Num Go.Proofs.Ytdpigeineephlaa.Nam
set_option linter.unusedVariables false
set_option linter.unusedSimpArgs false

theorem qput_ok {b : List Int} {l : List S60} (hb : b.length ≤ 100000000000) (hf : l.all fitC = true) : qcode_Put.f b l = some (if mayQ l = 0 then (b ++ encQ l, 0) else ([], mayQ l)) := by
  have m1 : query_May.f l = some (mayQ l) := if_pos hf
  unfold qcode_Put.f
  rw [m1]
  simp only [Option.bind_some]
  by_cases h0 : mayQ l = 0
  · have hz := encQ_size (mayQ_zero.1 h0)
    have m2 : qcode_put.f b l = some (b ++ encQ l) := if_pos (by omega)
    rw [if_pos h0, if_pos h0, m2]; rfl
  · rw [if_neg h0, if_neg h0]
theorem okC_nil : OkC ⟨[], []⟩ := ⟨by simp, by simp, fun s hs => by simp at hs, fun s hs => by simp at hs, rfl, rfl⟩
theorem okQ_st : OkQ [⟨[], []⟩] := ⟨by decide, fun x hx => by rw [List.mem_singleton.1 hx]; exact okC_nil⟩
theorem encQ_st : encQ [⟨[], []⟩] = [2, 0, 0] := by
  show enc 1 ++ ((enc 0 ++ []) ++ (enc 0 ++ []) ++ []) = _
  rw [enc_0, enc_1]; rfl
theorem shown07 : registrarlaw07_shown.f = some true := by
  unfold registrarlaw07_shown.f
  rw [qput_ok (by decide) okQ_st.fit, if_pos (mayQ_zero.2 okQ_st), encQ_st]
  simp only [Option.bind_some, List.nil_append]
  rw [if_pos (by rw [strOfNums_toList]; rfl)]; rfl
def fewC (x : S60) : S60 := ⟨x.f0.take 8, x.f1.take 8⟩
def fewQ (l : List S60) : List S60 := (l.take 8).map fewC
theorem few07_j1 (k i : Nat) (l acc : List S60) (hi : i < l.length) (ha : acc.length ≤ 1000) (hi2 : i ≤ 1000) : registrarlaw07_few.j1 (k + 1) (i : Int) true l acc = registrarlaw07_few.l0 k ((i + 1 : Nat) : Int) l (acc ++ [fewC (rd_T60 l (i : Int))]) := by
  rw [registrarlaw07_few.j1, if_pos rfl, if_pos (by omega), if_pos (by omega), succW i (by omega)]
  unfold fewC
  generalize rd_T60 l (i : Int) = x
  obtain ⟨ts, fs⟩ := x
  simp only [Option.bind_some]
  by_cases h1 : (ts.length : Int) > 8
  · rw [if_pos h1, if_pos (by omega)]
    by_cases h2 : (fs.length : Int) > 8
    · rw [if_pos h2, if_pos (by omega), if_pos (by omega)]
    · rw [if_neg h2, if_pos (by omega), List.take_of_length_le (l := fs) (by omega)]
  · rw [if_neg h1, List.take_of_length_le (l := ts) (by omega)]
    by_cases h2 : (fs.length : Int) > 8
    · rw [if_pos h2, if_pos (by omega), if_pos (by omega)]
    · rw [if_neg h2, if_pos (by omega), List.take_of_length_le (l := fs) (by omega)]
theorem few07_loop (l : List S60) : ∀ (n i k : Nat) (acc : List S60), i + n = min 8 l.length → 2 * n + 2 < k → acc.length = i → registrarlaw07_few.l0 k (i : Int) l acc = some (acc ++ ((l.take 8).drop i).map fewC) := by
  intro n
  induction n with
  | zero =>
    intro i k acc hi hk ha
    obtain ⟨k, rfl⟩ : ∃ m, k = m + 2 := ⟨k - 2, by omega⟩
    rw [List.drop_eq_nil_of_le (by rw [List.length_take]; omega), List.map_nil, List.append_nil, registrarlaw07_few.l0]
    by_cases h : (i : Int) < (l.length : Int)
    · rw [if_pos h, decide_eq_false (by omega), registrarlaw07_few.j1, if_neg (by decide)]
    · rw [if_neg h, registrarlaw07_few.j1, if_neg (by decide)]
  | succ n ih =>
    intro i k acc hi hk ha
    obtain ⟨k, rfl⟩ : ∃ m, k = m + 2 := ⟨k - 2, by omega⟩
    rw [registrarlaw07_few.l0, if_pos (by omega), decide_eq_true (by omega), few07_j1 k i l acc (by omega) (by omega) (by omega), ih (i + 1) k _ (by omega) (by omega) (by simp [ha]), List.append_assoc]
    congr 2
    have hd : (l.take 8).drop i = rd_T60 l (i : Int) :: (l.take 8).drop (i + 1) := by
      rw [List.drop_eq_getElem_cons (by rw [List.length_take]; omega), List.getElem_take]
      unfold rd_T60
      rw [Int.toNat_natCast, List.getD_eq_getElem?_getD, List.getElem?_eq_getElem (by omega)]; rfl
    rw [hd, List.map_cons]; rfl
theorem few07 {k : Nat} (hk : 20 ≤ k) (l : List S60) : registrarlaw07_few.f k l = some (fewQ l) := by
  unfold registrarlaw07_few.f fewQ
  have := few07_loop l (min 8 l.length) 0 k [] (by omega) (by omega) rfl
  rwa [List.drop_zero, List.nil_append] at this
def fewD (x : S36) : S36 := ⟨x.f0, x.f1, ⟨fewQ x.f2.f0⟩⟩
def someD (l : List S36) : List S36 := (l.take 6).map fewD
theorem some07_loop (l : List S36) : ∀ (n i k : Nat) (acc : List S36), i + n = min 6 l.length → n + 21 < k → acc.length = i → registrarlaw07_some.l0 k l acc (i : Int) = some (acc ++ ((l.take 6).drop i).map fewD) := by
  intro n
  induction n with
  | zero =>
    intro i k acc hi hk ha
    obtain ⟨k, rfl⟩ : ∃ m, k = m + 1 := ⟨k - 1, by omega⟩
    rw [List.drop_eq_nil_of_le (by rw [List.length_take]; omega), List.map_nil, List.append_nil, registrarlaw07_some.l0]
    by_cases h : (i : Int) < (l.length : Int)
    · rw [if_pos h, if_neg (by omega)]
    · rw [if_neg h]
  | succ n ih =>
    intro i k acc hi hk ha
    obtain ⟨k, rfl⟩ : ∃ m, k = m + 1 := ⟨k - 1, by omega⟩
    rw [registrarlaw07_some.l0, if_pos (by omega), if_pos (by omega), if_pos (by omega), few07 (by omega)]
    simp only [Option.bind_some]
    rw [if_pos (by omega), succW i (by omega), ih (i + 1) k _ (by omega) (by omega) (by simp [ha]), List.append_assoc]
    congr 2
    have hd : (l.take 6).drop i = rd_T36 l (i : Int) :: (l.take 6).drop (i + 1) := by
      rw [List.drop_eq_getElem_cons (by rw [List.length_take]; omega), List.getElem_take]
      unfold rd_T36
      rw [Int.toNat_natCast, List.getD_eq_getElem?_getD, List.getElem?_eq_getElem (by omega)]; rfl
    rw [hd, List.map_cons]; rfl
theorem some07 {k : Nat} (hk : 30 ≤ k) (l : List S36) : registrarlaw07_some.f k l = some (someD l) := by
  unfold registrarlaw07_some.f someD
  have := some07_loop l (min 6 l.length) 0 k [] (by omega) (by omega) rfl
  rwa [List.drop_zero, List.nil_append] at this
/-- Texts that fit in a machine. -/
def FitsQ (l : List S60) : Prop := ∀ x ∈ l, (∀ s ∈ x.f0, s.size ≤ 9223372036854775807) ∧ (∀ s ∈ x.f1, s.size ≤ 9223372036854775807)
def FitsD (l : List S36) : Prop := ∀ x ∈ l, x.f1.size ≤ 9223372036854775807 ∧ FitsQ x.f2.f0
theorem fewQ_fit {l : List S60} (h : FitsQ l) : (fewQ l).all fitC = true := List.all_eq_true.2 fun x hx => by
  obtain ⟨y, hy, rfl⟩ := List.mem_map.1 hx
  obtain ⟨h1, h2⟩ := h y (List.mem_of_mem_take hy)
  exact fitC_iff.2 ⟨fun s hs => h1 s (List.mem_of_mem_take hs), fun s hs => h2 s (List.mem_of_mem_take hs)⟩
theorem someD_fit {l : List S36} (h : FitsD l) : (someD l).all fitD = true := List.all_eq_true.2 fun x hx => by
  obtain ⟨y, hy, rfl⟩ := List.mem_map.1 hx
  obtain ⟨h1, h2⟩ := h y (List.mem_of_mem_take hy)
  exact fitD_iff.2 ⟨fewQ_fit h2, h1⟩
theorem someD_len (l : List S36) : (someD l).length = min 6 l.length := by unfold someD; rw [List.length_map, List.length_take]
end Go.Proofs.Ytdpigeineephlaa.Prt
namespace Go.Proofs.Ytdpigeineephlaa.Prt
open Go.RowKit Go.Proofs.YtdpigeineephlaaW.PrintWords Go.Proofs.YtdpigeineephlaaW.PrintLast Go.Proofs.YtdpigeineephlaaW.PrintMore
attribute [local go_sem] max2_int min2_int max_two min_two max_three min_three max_four min_four   -- for this text's walks alone
set_option linter.unusedVariables false
set_option linter.unusedSimpArgs false

end Go.Proofs.Ytdpigeineephlaa.Prt
namespace Go.Proofs.Ytdpigeineephlaa.Prt
open Go.RowKit Go.Proofs.YtdpigeineephlaaW.PrintWords Go.Proofs.YtdpigeineephlaaW.PrintLast Go.Proofs.YtdpigeineephlaaW.PrintMore
attribute [local go_sem] max2_int min2_int max_two min_two max_three min_three max_four min_four   -- for this text's walks alone
set_option linter.unusedVariables false
set_option linter.unusedSimpArgs false

def registrarlaw07_QcodeRefuses.l0 : Nat → List (S36) → Bool → Int → Int → Int → Option (Bool)
  | 0, _, _, _, _, _ => none
  | k + 1, x0, x3, x5, x6, x7 => if x7 ≥ 0 then (if 0 ≤ x7 then (if x7 < (x0.length : Int) then ((qcode_MayDefG.f ((rd_T36 x0 x7).f0) ((rd_T36 x0 x7).f1) ((rd_T36 x0 x7).f2.f0)).bind fun t370 => (if t370 = 0 then (registrarlaw07_QcodeRefuses.l0 k x0 x3 x5 x6 (wrap64 (x7 - 1))) else (registrarlaw07_QcodeRefuses.l0 k x0 x3 x5 t370 (wrap64 (x7 - 1))))) else (none)) else (none)) else (if (x0.length : Int) > 4 then (if x3 = true then (some (x5 == 3)) else (some false)) else (if x3 = true then (some (x5 == x6)) else (some false)))
def registrarlaw07_QcodeRefuses.f (k : Nat) (l0 : List (S36)) : Option (Bool) := (registrarlaw07_shown.f).bind fun t361 => ((registrarlaw07_some.f k l0).bind fun t362 => ((qcode_PutDefs.f t362).bind fun bt365 => (registrarlaw07_QcodeRefuses.l0 k t362 t361 bt365.2 0 (wrap64 ((t362.length : Int) - 1)))))
set_option maxHeartbeats 8000000 in
set_option maxRecDepth 100000 in
theorem registrarlaw07_QcodeRefuses.calls (k : Nat) (A0 : Option Addr) (c0 : Nat) (l0 : List (S36)) (r : Bool) (w : World) (hr0 : Kd.C k36 w A0 l0.length l0) (hc0 : l0.length ≤ c0) (h : registrarlaw07_QcodeRefuses.f k l0 = some r) :
    Calls Try.prog 5 #[.slice A0 l0.length c0] w fun e w' => e = .returned (.bool r) ∧ Below w.heap.size w w' := by
  have hu36 := Try.underlying36
  have HR0 := Aside0.mk hr0
  have HC0 := Aside0.mk hc0
  clear hr0 hc0
  have HB := Aside0.mk (Below.refl w.heap.size w)
  have H : ((registrarlaw07_shown.f).bind fun t361 => ((registrarlaw07_some.f k l0).bind fun t362 => ((qcode_PutDefs.f t362).bind fun bt365 => (registrarlaw07_QcodeRefuses.l0 k t362 t361 bt365.2 0 (wrap64 ((t362.length : Int) - 1)))))) = some r := h
  clear h
  replace H := Option.bind_eq_some_iff.mp H
  obtain ⟨t361, A20, H⟩ := H
  replace H : ((registrarlaw07_some.f k l0).bind fun t362 => ((qcode_PutDefs.f t362).bind fun bt365 => (registrarlaw07_QcodeRefuses.l0 k t362 t361 bt365.2 0 (wrap64 ((t362.length : Int) - 1))))) = some r := H
  have A2 := Aside0.mk A20
  clear A20
  replace H := Option.bind_eq_some_iff.mp H
  obtain ⟨t362, A30, H⟩ := H
  replace H : ((qcode_PutDefs.f t362).bind fun bt365 => (registrarlaw07_QcodeRefuses.l0 k t362 t361 bt365.2 0 (wrap64 ((t362.length : Int) - 1)))) = some r := H
  have A3 := Aside0.mk A30
  clear A30
  replace H := Option.bind_eq_some_iff.mp H
  obtain ⟨⟨t365, t366⟩, A40, H⟩ := H
  replace H : (registrarlaw07_QcodeRefuses.l0 k t362 t361 t366 0 (wrap64 ((t362.length : Int) - 1))) = some r := H
  have A4 := Aside0.mk A40
  clear A40
  have H' := Aside0.mk H
  clear H
  go_enter Try.func5, Try.ntmps5
  go_wp2_with (first | ((with_reducible refine gate_callee (f := 9) rfl ?_); refine goesL_ (some 9) rfl rfl Try.func9 (by kernel_rfl) rfl #[] rfl (by (try simp only [List.map_toArray, List.map_cons, List.map_nil]); first | done | rfl | (simp only [List.length_drop, List.length_take]; rfl)) ?_; (with_reducible refine (registrarlaw07_shown.calls  t361 _ A2.out).mono ?_); rintro e w5 ⟨rfl, hb⟩; refine ⟨_, rfl, ?_⟩; have n0_ := Aside0.mk (below_step (by repeat (first | (with_reducible first | exact HB.out | apply below_alloc | apply pw_below_drewN | apply below_drew1) | exact HB.out)) hb); clear HB; have HB := n0_; clear n0_; (try clear hb); (try clear hb2); (try clear hk); (try clear hi)) | ((with_reducible refine gate_callee (f := 14) rfl ?_); refine goesL_ (some 11) rfl rfl Try.func14 (by kernel_rfl) rfl #[.slice A0 l0.length c0] rfl (by (try simp only [List.map_toArray, List.map_cons, List.map_nil]); first | done | rfl | (simp only [List.length_drop, List.length_take]; rfl)) ?_; (with_reducible refine (registrarlaw07_some.calls k (fun k_ => k_ < w.heap.size) _ _ l0 t362 _ ?side1 A3.out).mono ?_); (case side1 => exact Kd.V_mk HC0.out (Kd.F_below (Kd.C_F k36_heap HR0.out) (by repeat (first | (with_reducible first | exact HB.out | apply below_alloc | apply pw_below_drewN | apply below_drew1) | exact HB.out)))); rintro e w6 ⟨v363, rfl, ho0, hb⟩; refine ⟨_, rfl, ?_⟩; have n0_ := Aside0.mk (Kd.N_lower (Kd.N_mono (ok' := fun k_ => True) ho0 (fun k_ hk_ => trivial)) (below_size (by repeat (first | (with_reducible first | exact HB.out | apply below_alloc | apply pw_below_drewN | apply below_drew1) | exact HB.out)))); have n1_ := Aside0.mk (below_step (by repeat (first | (with_reducible first | exact HB.out | apply below_alloc | apply pw_below_drewN | apply below_drew1) | exact HB.out)) hb); clear HB; have HO364 := n0_; have HB := n1_; clear n0_ n1_; (try clear hb); (try clear hb2); (try clear hk); (try clear hi); (try clear ho0); obtain ⟨Ao7, co7, eo7⟩ := Kd.N_slice HO364.out; subst eo7) | ((with_reducible refine gate_callee (f := 13) rfl ?_); refine goesL_ (some 14) rfl rfl Try.func13 (by kernel_rfl) rfl #[.slice Ao7 t362.length co7] rfl (by (try simp only [List.map_toArray, List.map_cons, List.map_nil]); first | done | rfl | (simp only [List.length_drop, List.length_take]; rfl)) ?_; (with_reducible refine (qcode_PutDefs.calls _ _ t362 t365 t366 _ ?side1 ?side2 A4.out).mono ?_); (case side1 => repeat (first | exact (Kd.N_reads' HO364.out).2.2 | (with_reducible refine Kd.C_alloc ?_ _) | (with_reducible refine Kd.C_drewN ?_ _) | (with_reducible refine Kd.C_drew ?_))); (case side2 => exact (Kd.N_reads' HO364.out).2.1); rintro e w8 ⟨v367, rfl, ho0, hb⟩; refine ⟨_, rfl, ?_⟩; have n0_ := Aside0.mk (Kd.N_elder' (by (with_reducible repeat (first | apply Kd.N_alloc | apply Kd.N_drewN | apply Kd.N_drew)); exact HO364.out) (Kd.R_base ho0) hb); have n1_ := Aside0.mk (Kd.R_lower ho0 (below_size (by repeat (first | (with_reducible first | exact HB.out | apply below_alloc | apply pw_below_drewN | apply below_drew1) | exact HB.out)))); have n2_ := Aside0.mk (below_step (by repeat (first | (with_reducible first | exact HB.out | apply below_alloc | apply pw_below_drewN | apply below_drew1) | exact HB.out)) hb); clear HO364; clear HB; have HO364 := n0_; have HO368 := n1_; have HB := n2_; clear n0_ n1_ n2_; (try clear hb); (try clear hb2); (try clear hk); (try clear hi); (try clear ho0)))
  go_loopg [6, 7] k (fun kq v6 v7 w' => ∃ (x6_1 : Int) (x7_1 : Int), v6 = .int .i64 x6_1 ∧ v7 = .int .i64 x7_1 ∧ Aside0 (registrarlaw07_QcodeRefuses.l0 kq t362 t361 t366 x6_1 x7_1 = some r) ∧ Aside0 (kq ≤ k) ∧ Aside0 (Kd.N k36 36 w' w.heap.size (fun _ => True) (.slice Ao7 t362.length co7) t362) ∧ Aside0 (Below w.heap.size w w'))
  case atStart => exact ⟨(0), (wrap64 ((t362.length : Int) - 1)), (by first | rfl | (simp; done) | (simp [*]; done)), (by first | rfl | (simp; done) | (simp [*]; done)), H', ⟨Nat.le_refl _⟩, ⟨by (with_reducible repeat (first | apply Kd.N_alloc | apply Kd.N_drewN | apply Kd.N_drew)); exact Kd.N_mono HO364.out (fun _ hk => trivial)⟩, ⟨by repeat (first | (with_reducible first | exact HB.out | apply below_alloc | apply pw_below_drewN | apply below_drew1) | exact HB.out)⟩⟩
  case round =>
    clear H'
    try clear c1
    try clear p2
    try clear c5
    try clear p6
    obtain ⟨x6_1, x7_1, rfl, rfl, HA, HK1, HO_0, HB⟩ := hrel
    cases gk with
    | zero => exact absurd HA.out (by simp [registrarlaw07_QcodeRefuses.l0])
    | succ k1 =>
      have H := HA.out
      clear HA
      simp only [registrarlaw07_QcodeRefuses.l0] at H
      by_cases c9 : x7_1 ≥ 0
      · rw [if_pos c9] at H
        have c9b0 : decide (0 ≤ x7_1) = true := decide_eq_true c9
        clear c9
        by_cases c10 : 0 ≤ x7_1
        · rw [if_pos c10] at H
          have c10b0 : decide (0 ≤ x7_1) = true := decide_eq_true c10
          clear c10
          by_cases c11 : x7_1 < (t362.length : Int)
          · rw [if_pos c11] at H
            have c11b0 : decide (x7_1 < (t362.length : Int)) = true := decide_eq_true c11
            clear c11
            replace H := Option.bind_eq_some_iff.mp H
            obtain ⟨t370, A120, H⟩ := H
            replace H : (if t370 = 0 then (registrarlaw07_QcodeRefuses.l0 k1 t362 t361 t366 x6_1 (wrap64 (x7_1 - 1))) else (registrarlaw07_QcodeRefuses.l0 k1 t362 t361 t366 t370 (wrap64 (x7_1 - 1)))) = some r := H
            have A12 := Aside0.mk A120
            clear A120
            by_cases c13 : t370 = 0
            · rw [if_pos c13] at H
              have c13b0 : (t370 == 0) = true := beq_iff_eq.mpr c13
              have c13b1 : (t370 != 0) = false := bne_eq_false_iff_eq.mpr c13
              clear c13
              have H' := Aside0.mk H
              clear H
              have p369 : 0 ≤ (x7_1 : Int) := of_decide_eq_true (by first | (with_reducible assumption) | assumption)
              have q369 : x7_1 < (t362.length : Int) := of_decide_eq_true (by first | (with_reducible assumption) | assumption)
              obtain ⟨ad369, A369_2, c369_2, e369, hx369_0, hx369_1, hx369_2, hl369_2, hi369_2⟩ := at_T36 (Kd.N_reads' HO_0.out).2.2 x7_1 p369 q369
              cases e369
              obtain ⟨ce369, hce369, hMe369, hcc369⟩ := Kd.N_get HO_0.out z36 x7_1 p369 (by first | exact q369 | exact of_decide_eq_true (by first | (with_reducible assumption) | assumption) | (have e_ := (Kd.N_reads' HO_0.out).1; omega))
              obtain ⟨ua369_2, uc369_2, rfl, ul369_2, ge369_2⟩ := k36_openF hMe369
              have hv369_2 := hcc369 2 _ rfl
              rw [add_field _ _ 2 (by omega)] at hv369_2
              replace hv369_2 := Option.some.inj (hv369_2.symm.trans hx369_2)
              injection hv369_2 with hva_ hvn_ hvc_
              rw [hva_] at ge369_2
              rw [hvc_] at ul369_2
              have HL369_2 := Aside0.mk (show Kd.V k60 60 _ w.heap.size _ _ ((rd_T36 t362 x7_1).f2.f0) from Kd.V_mk ul369_2 ge369_2)
              clear hva_ hvn_ hvc_ ge369_2 ul369_2
              clear hcc369 hce369
              have HR369_2 := Aside0.mk hi369_2
              have HC369_2 := Aside0.mk hl369_2
              clear hi369_2 hl369_2
              replace p369 := eq_true p369
              replace q369 := eq_true q369
              go_wp2_with (first | ((with_reducible refine gate_callee (f := 16) rfl ?_); refine goesL_ (some 28) rfl rfl Try.func16 (by kernel_rfl) rfl #[.agg #[.int .i64 ((rd_T36 t362 x7_1).f0), .string ((rd_T36 t362 x7_1).f1), .slice A369_2 ((rd_T36 t362 x7_1).f2.f0).length c369_2]] rfl (by (try simp only [List.map_toArray, List.map_cons, List.map_nil]); first | done | rfl | (simp only [List.length_drop, List.length_take]; rfl)) ?_; (with_reducible refine (qcode_MayDefG.calls ((rd_T36 t362 x7_1).f0) ((rd_T36 t362 x7_1).f1) _ _ ((rd_T36 t362 x7_1).f2.f0) t370 _ ?side1 ?side2 A12.out).mono ?_); (case side1 => repeat (first | exact (by repeat (first | (with_reducible exact HR369_2.out) | (with_reducible refine Kd.C_alloc ?_ _) | (with_reducible refine Kd.C_drewN ?_ _) | (with_reducible refine Kd.C_drew ?_) | exact HR369_2.out | exact (Kd.V_reads' HL369_2.out).2.2)) | (with_reducible refine Kd.C_alloc ?_ _) | (with_reducible refine Kd.C_drewN ?_ _) | (with_reducible refine Kd.C_drew ?_))); (case side2 => exact HC369_2.out); rintro e w14 ⟨rfl, hb⟩; refine ⟨_, rfl, ?_⟩; have n0_ := Aside0.mk (Kd.N_below (by (with_reducible repeat (first | apply Kd.N_alloc | apply Kd.N_drewN | apply Kd.N_drew)); exact HO_0.out) hb); have n1_ := Aside0.mk (Kd.V_below (by (with_reducible repeat (first | apply Kd.V_alloc | apply Kd.V_drewN | apply Kd.V_drew)); exact HL369_2.out) hb); have n2_ := Aside0.mk (Kd.C_below (by repeat (first | (with_reducible exact HR369_2.out) | (with_reducible refine Kd.C_alloc ?_ _) | (with_reducible refine Kd.C_drewN ?_ _) | (with_reducible refine Kd.C_drew ?_) | exact HR369_2.out | exact (Kd.V_reads' HL369_2.out).2.2)) hb); have n3_ := Aside0.mk (below_step (by repeat (first | (with_reducible first | exact HB.out | apply below_alloc | apply pw_below_drewN | apply below_drew1) | exact HB.out)) hb); clear HO_0; clear HL369_2; clear HR369_2; clear HB; have HO_0 := n0_; have HL369_2 := n1_; have HR369_2 := n2_; have HB := n3_; clear n0_ n1_ n2_ n3_; (try clear hb); (try clear hb2); (try clear hk); (try clear hi)))
              go_roundg k1
              case measure => have := HK1.out; omega
              case rel => exact ⟨(x6_1), (wrap64 (x7_1 - 1)), (by first | rfl | (simp; done) | (simp [*]; done)), (by first | rfl | (simp; done) | (simp [*]; done)), H', ⟨by have := HK1.out; omega⟩, ⟨by (with_reducible repeat (first | apply Kd.N_alloc | apply Kd.N_drewN | apply Kd.N_drew)); exact HO_0.out⟩, ⟨by repeat (first | (with_reducible first | exact HB.out | apply below_alloc | apply pw_below_drewN | apply below_drew1) | exact HB.out)⟩⟩
            · rw [if_neg c13] at H
              have c13b0 : (t370 == 0) = false := beq_eq_false_iff_ne.mpr c13
              have c13b1 : (t370 != 0) = true := bne_iff_ne.mpr c13
              have H' := Aside0.mk H
              clear H
              have p369 : 0 ≤ (x7_1 : Int) := of_decide_eq_true (by first | (with_reducible assumption) | assumption)
              have q369 : x7_1 < (t362.length : Int) := of_decide_eq_true (by first | (with_reducible assumption) | assumption)
              obtain ⟨ad369, A369_2, c369_2, e369, hx369_0, hx369_1, hx369_2, hl369_2, hi369_2⟩ := at_T36 (Kd.N_reads' HO_0.out).2.2 x7_1 p369 q369
              cases e369
              obtain ⟨ce369, hce369, hMe369, hcc369⟩ := Kd.N_get HO_0.out z36 x7_1 p369 (by first | exact q369 | exact of_decide_eq_true (by first | (with_reducible assumption) | assumption) | (have e_ := (Kd.N_reads' HO_0.out).1; omega))
              obtain ⟨ua369_2, uc369_2, rfl, ul369_2, ge369_2⟩ := k36_openF hMe369
              have hv369_2 := hcc369 2 _ rfl
              rw [add_field _ _ 2 (by omega)] at hv369_2
              replace hv369_2 := Option.some.inj (hv369_2.symm.trans hx369_2)
              injection hv369_2 with hva_ hvn_ hvc_
              rw [hva_] at ge369_2
              rw [hvc_] at ul369_2
              have HL369_2 := Aside0.mk (show Kd.V k60 60 _ w.heap.size _ _ ((rd_T36 t362 x7_1).f2.f0) from Kd.V_mk ul369_2 ge369_2)
              clear hva_ hvn_ hvc_ ge369_2 ul369_2
              clear hcc369 hce369
              have HR369_2 := Aside0.mk hi369_2
              have HC369_2 := Aside0.mk hl369_2
              clear hi369_2 hl369_2
              replace p369 := eq_true p369
              replace q369 := eq_true q369
              go_wp2_with (first | ((with_reducible refine gate_callee (f := 16) rfl ?_); refine goesL_ (some 28) rfl rfl Try.func16 (by kernel_rfl) rfl #[.agg #[.int .i64 ((rd_T36 t362 x7_1).f0), .string ((rd_T36 t362 x7_1).f1), .slice A369_2 ((rd_T36 t362 x7_1).f2.f0).length c369_2]] rfl (by (try simp only [List.map_toArray, List.map_cons, List.map_nil]); first | done | rfl | (simp only [List.length_drop, List.length_take]; rfl)) ?_; (with_reducible refine (qcode_MayDefG.calls ((rd_T36 t362 x7_1).f0) ((rd_T36 t362 x7_1).f1) _ _ ((rd_T36 t362 x7_1).f2.f0) t370 _ ?side1 ?side2 A12.out).mono ?_); (case side1 => repeat (first | exact (by repeat (first | (with_reducible exact HR369_2.out) | (with_reducible refine Kd.C_alloc ?_ _) | (with_reducible refine Kd.C_drewN ?_ _) | (with_reducible refine Kd.C_drew ?_) | exact HR369_2.out | exact (Kd.V_reads' HL369_2.out).2.2)) | (with_reducible refine Kd.C_alloc ?_ _) | (with_reducible refine Kd.C_drewN ?_ _) | (with_reducible refine Kd.C_drew ?_))); (case side2 => exact HC369_2.out); rintro e w15 ⟨rfl, hb⟩; refine ⟨_, rfl, ?_⟩; have n0_ := Aside0.mk (Kd.N_below (by (with_reducible repeat (first | apply Kd.N_alloc | apply Kd.N_drewN | apply Kd.N_drew)); exact HO_0.out) hb); have n1_ := Aside0.mk (Kd.V_below (by (with_reducible repeat (first | apply Kd.V_alloc | apply Kd.V_drewN | apply Kd.V_drew)); exact HL369_2.out) hb); have n2_ := Aside0.mk (Kd.C_below (by repeat (first | (with_reducible exact HR369_2.out) | (with_reducible refine Kd.C_alloc ?_ _) | (with_reducible refine Kd.C_drewN ?_ _) | (with_reducible refine Kd.C_drew ?_) | exact HR369_2.out | exact (Kd.V_reads' HL369_2.out).2.2)) hb); have n3_ := Aside0.mk (below_step (by repeat (first | (with_reducible first | exact HB.out | apply below_alloc | apply pw_below_drewN | apply below_drew1) | exact HB.out)) hb); clear HO_0; clear HL369_2; clear HR369_2; clear HB; have HO_0 := n0_; have HL369_2 := n1_; have HR369_2 := n2_; have HB := n3_; clear n0_ n1_ n2_ n3_; (try clear hb); (try clear hb2); (try clear hk); (try clear hi)))
              go_roundg k1
              case measure => have := HK1.out; omega
              case rel => exact ⟨(t370), (wrap64 (x7_1 - 1)), (by first | rfl | (simp; done) | (simp [*]; done)), (by first | rfl | (simp; done) | (simp [*]; done)), H', ⟨by have := HK1.out; omega⟩, ⟨by (with_reducible repeat (first | apply Kd.N_alloc | apply Kd.N_drewN | apply Kd.N_drew)); exact HO_0.out⟩, ⟨by repeat (first | (with_reducible first | exact HB.out | apply below_alloc | apply pw_below_drewN | apply below_drew1) | exact HB.out)⟩⟩
          · rw [if_neg c11] at H
            exact absurd H (by simp)
        · rw [if_neg c10] at H
          exact absurd H (by simp)
      · rw [if_neg c9] at H
        have c9b0 : decide (0 ≤ x7_1) = false := decide_eq_false c9
        clear c9
        by_cases c16 : (t362.length : Int) > 4
        · rw [if_pos c16] at H
          have c16b0 : decide (4 < (t362.length : Int)) = true := decide_eq_true c16
          have c16b1 : decide (4 < t362.length) = true := decide_eq_true (by omega)
          clear c16
          by_cases c17 : t361 = true
          · subst c17
            have H1 : (some (t366 == 3)) = some r := by rw [if_pos rfl] at H; exact H
            clear H
            have H := H1
            clear H1
            obtain rfl := Option.some.inj H
            go_wp2
            go_ret
            exact ⟨by first | rfl | (simp [errW_none, errW_some] <;> rfl) | (simp [*, errW_none, errW_some] <;> rfl), by repeat (first | (with_reducible first | exact HB.out | apply below_alloc | apply pw_below_drewN | apply below_drew1) | exact HB.out)⟩
          · replace c17 := Bool.eq_false_iff.mpr c17
            subst c17
            have H1 : (some false) = some r := by rw [if_neg (show ¬ (false = true) by decide)] at H; exact H
            clear H
            have H := H1
            clear H1
            obtain rfl := Option.some.inj H
            go_wp2
            go_ret
            exact ⟨by first | rfl | (simp [errW_none, errW_some] <;> rfl) | (simp [*, errW_none, errW_some] <;> rfl), by repeat (first | (with_reducible first | exact HB.out | apply below_alloc | apply pw_below_drewN | apply below_drew1) | exact HB.out)⟩
        · rw [if_neg c16] at H
          have c16b0 : decide (4 < (t362.length : Int)) = false := decide_eq_false c16
          have c16b1 : decide (4 < t362.length) = false := decide_eq_false (by omega)
          clear c16
          by_cases c18 : t361 = true
          · subst c18
            have H1 : (some (t366 == x6_1)) = some r := by rw [if_pos rfl] at H; exact H
            clear H
            have H := H1
            clear H1
            obtain rfl := Option.some.inj H
            go_wp2
            go_ret
            exact ⟨by first | rfl | (simp [errW_none, errW_some] <;> rfl) | (simp [*, errW_none, errW_some] <;> rfl), by repeat (first | (with_reducible first | exact HB.out | apply below_alloc | apply pw_below_drewN | apply below_drew1) | exact HB.out)⟩
          · replace c18 := Bool.eq_false_iff.mpr c18
            subst c18
            have H1 : (some false) = some r := by rw [if_neg (show ¬ (false = true) by decide)] at H; exact H
            clear H
            have H := H1
            clear H1
            obtain rfl := Option.some.inj H
            go_wp2
            go_ret
            exact ⟨by first | rfl | (simp [errW_none, errW_some] <;> rfl) | (simp [*, errW_none, errW_some] <;> rfl), by repeat (first | (with_reducible first | exact HB.out | apply below_alloc | apply pw_below_drewN | apply below_drew1) | exact HB.out)⟩

end Go.Proofs.Ytdpigeineephlaa.Prt
namespace Go.Proofs.Ytdpigeineephlaa.Prt
open Go.RowKit Go.Proofs.YtdpigeineephlaaW.PrintWords Go.Proofs.YtdpigeineephlaaW.PrintLast Go.Proofs.YtdpigeineephlaaW.PrintMore Go.Proofs.Ytdpigeineephlaa.Num Go.Proofs.Ytdpigeineephlaa.Nam
set_option linter.unusedVariables false
set_option linter.unusedSimpArgs false

theorem qref_loop (l : List S36) (hf : l.all fitD = true) (hl : l.length ≤ 100) (e : Int) : ∀ (n k : Nat), n ≤ l.length → n < k → registrarlaw07_QcodeRefuses.l0 k l true e (firstD (l.drop n)) ((n : Int) - 1) = some (if 4 < l.length then e == 3 else e == firstD l) := by
  intro n
  induction n with
  | zero =>
    intro k hn hk
    obtain ⟨k, rfl⟩ : ∃ m, k = m + 1 := ⟨k - 1, by omega⟩
    rw [registrarlaw07_QcodeRefuses.l0, if_neg (by omega), List.drop_zero]
    by_cases c : 4 < l.length
    · rw [if_pos (by omega), if_pos rfl, if_pos c]
    · rw [if_neg (by omega), if_pos rfl, if_neg c]
  | succ n ih =>
    intro k hn hk
    obtain ⟨k, rfl⟩ : ∃ m, k = m + 1 := ⟨k - 1, by omega⟩
    have e0 : (((n + 1 : Nat) : Int) - 1) = (n : Int) := by omega
    have hm := List.all_eq_true.1 hf _ (rdD_mem (l := l) (i := n) (by omega))
    have m1 : qcode_MayDefG.f (rd_T36 l (n : Int)).f0 (rd_T36 l (n : Int)).f1 (rd_T36 l (n : Int)).f2.f0 = some (defE (rd_T36 l (n : Int))) := if_pos (fitD_iff.1 hm)
    rw [e0, registrarlaw07_QcodeRefuses.l0, if_pos (by omega), if_pos (by omega), if_pos (by omega), m1]
    simp only [Option.bind_some]
    rw [wrapI (n := (n : Int) - 1) (by omega) (by omega)]
    by_cases h0 : defE (rd_T36 l (n : Int)) = 0
    · rw [if_pos h0, ← firstD_yes (by omega) h0]; exact ih k (by omega) (by omega)
    · rw [if_neg h0, ← firstD_no (by omega) h0]; exact ih k (by omega) (by omega)
theorem qcodeRefuses_true (l : List S36) (hf : FitsD l) : registrarlaw07_QcodeRefuses.f 100 l = some true := by
  have m3 : qcode_PutDefs.f (someD l) = some (putDs (someD l)) := if_pos (someD_fit hf)
  have hl := someD_len l
  unfold registrarlaw07_QcodeRefuses.f
  rw [shown07, some07 (by omega)]
  simp only [Option.bind_some]
  rw [m3]
  simp only [Option.bind_some]
  rw [wrapI (n := ((someD l).length : Int) - 1) (by omega) (by omega)]
  have h := qref_loop (someD l) (someD_fit hf) (by omega) (putDs (someD l)).2 (someD l).length 100 (Nat.le_refl _) (by omega)
  have e : firstD ((someD l).drop (someD l).length) = 0 := by rw [List.drop_length]; rfl
  rw [e] at h
  rw [h]
  congr 1
  unfold putDs
  by_cases c : 4 < (someD l).length
  · rw [if_pos c, if_pos c]; rfl
  · rw [if_neg c, if_neg c]
    by_cases c2 : firstD (someD l) ≠ 0
    · rw [if_pos c2]; simp
    · rw [if_neg c2]
      have : firstD (someD l) = 0 := by simpa using c2
      rw [this]; rfl
end Go.Proofs.Ytdpigeineephlaa.Prt
namespace Go.Proofs.Ytdpigeineephlaa.Gen
open Go.RowKit Go.Proofs.YtdpigeineephlaaW.PrintWords Go.Proofs.YtdpigeineephlaaW.PrintLast Go.Proofs.YtdpigeineephlaaW.PrintMore
set_option linter.unusedVariables false
set_option linter.unusedSimpArgs false

theorem list_of {α : Type} {p : Nat → α → Prop} : ∀ n : Nat, (∀ i, i < n → ∃ x, p i x) → ∃ xs : List α, xs.length = n ∧ ∀ i x, xs[i]? = some x → p i x := by
  intro n
  induction n with
  | zero => exact fun _ => ⟨[], rfl, fun i x h => by simp at h⟩
  | succ n ih =>
    intro h
    obtain ⟨xs, h1, h2⟩ := ih (fun i hi => h i (by omega))
    obtain ⟨y, hy⟩ := h n (by omega)
    refine ⟨xs ++ [y], by simp [h1], fun i x hx => ?_⟩
    rcases Nat.lt_or_ge i xs.length with hi | hi
    · rw [List.getElem?_append_left hi] at hx; exact h2 i x hx
    · have hl := (List.getElem?_eq_some_iff.1 hx).1
      rw [List.length_append, List.length_singleton] at hl
      obtain rfl : i = xs.length := by omega
      rw [List.getElem?_append_right hi] at hx
      simp at hx
      subst hx
      rw [h1]; exact hy
/-- Whatever reads as data of type t stands as an x of kind k that is ok. -/
def Opens {α : Type} (P : Program) (t : TypeId) (k : Kd α) (ok : α → Prop) : Prop :=
  ∀ {H : Type} (enc : TypeId × Value → H) (w : World) (base : Nat) (spare : Nat → Bool) (held : Bool) (fuel : Nat) (cs : List Value) (y : DataW H × List MemPlace), DataW.trod enc P w base spare held fuel t cs = some y → ∃ x, k.K w x cs ∧ ok x
section
variable {P : Program} {t e : TypeId}
theorem opens_int {k : IntKind} (ht : P.underlying t = some (.int k)) : Opens P t (Kd.int k) (fun n => (Lit.int k n).wf = true) := by
  intro H enc w base spare held fuel cs y h
  obtain ⟨n, rfl, _, h2⟩ := DataW.trod_int ht h
  exact ⟨n, rfl, h2⟩
theorem opens_string (ht : P.underlying t = some .string) : Opens P t Kd.string (fun s => s.size ≤ maxLen) := by
  intro H enc w base spare held fuel cs y h
  obtain ⟨s, rfl, _, h2⟩ := DataW.trod_string ht h
  exact ⟨s, rfl, h2⟩
theorem opens_slice {α : Type} {k : Kd α} {ok : α → Prop} (ht : P.underlying t = some (.slice e)) (hc : P.cellsOf e = k.sz) (he : Opens P e k ok) : Opens P t (Kd.slice e k) (fun xs => ∀ x ∈ xs, ok x) := by
  intro H enc w base spare held fuel cs y h
  rcases DataW.trod_slice ht h with ⟨rfl, _⟩ | ⟨a, len, cap, elems, rest, n, _, rfl, _, hb, hl, hm, hlen, hel, _, _⟩
  · exact ⟨[], ⟨none, 0, rfl, Nat.le_refl _, Kd.C_nil _ _⟩, fun x hx => by simp at hx⟩
  · have key : ∀ i, i < len → ∃ x, (∃ c, c.length = k.sz ∧ k.K w x c ∧ ∀ j u, c[j]? = some u → w.cell? (a.add (i * k.sz + j)) = some u) ∧ ok x := by
      intro i hi
      have h1 := hel i hi
      have h2 : elems[i]? = some elems[i] := List.getElem?_eq_getElem (by omega)
      rw [h2] at h1
      obtain ⟨c, hcells, htrod⟩ := Option.bind_eq_some_iff.1 h1
      obtain ⟨x, hx, hok⟩ := he enc w base spare held n c _ htrod
      obtain ⟨_, hcl, hcc⟩ := World.cells?_some hcells
      refine ⟨x, ⟨c, by rw [hcl, hc], hx, fun j u hj => ?_⟩, hok⟩
      have hjl : j < P.cellsOf e := by rw [← hcl]; exact (List.getElem?_eq_some_iff.1 hj).1
      have h3 := hcc j hjl
      rw [hj, hc] at h3
      rw [← h3]
      congr 1
      exact (Go.Deep.add_add a (i * k.sz) j).symm
    obtain ⟨xs, hxl, hx⟩ := list_of len key
    refine ⟨xs, ⟨some a, cap, by rw [hxl], by rw [hxl]; exact hl, hxl ▸ rfl, by rw [hxl]; simp only [maxLen] at hm; omega, fun _ => ⟨a, rfl, fun j p hp => (hx j p hp).1⟩⟩, fun x hxm => ?_⟩
    obtain ⟨j, hj⟩ := List.mem_iff_getElem?.1 hxm
    exact (hx j x hj).2
end
end Go.Proofs.Ytdpigeineephlaa.Gen
namespace Go.Proofs.Ytdpigeineephlaa.Gen
open Go.RowKit Go.Proofs.YtdpigeineephlaaW.PrintWords Go.Proofs.YtdpigeineephlaaW.PrintLast Go.Proofs.YtdpigeineephlaaW.PrintMore Go.Proofs.Ytdpigeineephlaa.Prt
set_option linter.unusedVariables false
set_option linter.unusedSimpArgs false
theorem opens_str : Opens Try.prog 9 Kd.string (fun s => s.size ≤ maxLen) := opens_string Try.underlying9
theorem opens_i64 : Opens Try.prog 3 (Kd.int .i64) (fun n => (Lit.int .i64 n).wf = true) := opens_int Try.underlying3
theorem opens_strs : Opens Try.prog 58 (Kd.slice 9 Kd.string) (fun xs => ∀ x ∈ xs, x.size ≤ maxLen) := opens_slice Try.underlying58 (by kernel_rfl) opens_str
end Go.Proofs.Ytdpigeineephlaa.Gen
namespace Go.Proofs.Ytdpigeineephlaa.Gen
open Go.RowKit Go.Proofs.YtdpigeineephlaaW.PrintWords Go.Proofs.YtdpigeineephlaaW.PrintLast Go.Proofs.YtdpigeineephlaaW.PrintMore Go.Proofs.Ytdpigeineephlaa.Prt
set_option linter.unusedVariables false
set_option linter.unusedSimpArgs false
/-- Clauses that came in. -/
def OkInQ (l : List S60) : Prop := ∀ x ∈ l, (∀ s ∈ x.f0, s.size ≤ maxLen) ∧ (∀ s ∈ x.f1, s.size ≤ maxLen)
theorem opens_clause : Opens Try.prog 60 k60 (fun x => (∀ z ∈ x.f0, z.size ≤ maxLen) ∧ (∀ z ∈ x.f1, z.size ≤ maxLen)) := by
  intro H enc w base spare held fuel cs y h
  obtain ⟨xs, n, _, _, hl, hlen, hf⟩ := DataW.trod_struct Try.underlying60 h
  rw [show Try.prog.cellsOf 60 = 2 from by kernel_rfl] at hl
  have hlen' : xs.length = 2 := hlen
  have h0 := hf 0 _ rfl
  rw [List.getElem?_eq_getElem (l := xs) (i := 0) (by omega)] at h0
  replace h0 : DataW.trod enc Try.prog w base spare held n 58 ((cs.drop 0).take (Try.prog.cellsOf 58)) = some xs[0] := h0
  rw [show Try.prog.cellsOf 58 = 1 from by kernel_rfl] at h0
  obtain ⟨x0, K0, o0⟩ := opens_strs enc w base spare held n _ _ h0
  have h1 := hf 1 _ rfl
  rw [List.getElem?_eq_getElem (l := xs) (i := 1) (by omega)] at h1
  replace h1 : DataW.trod enc Try.prog w base spare held n 58 ((cs.drop 1).take (Try.prog.cellsOf 58)) = some xs[1] := h1
  rw [show Try.prog.cellsOf 58 = 1 from by kernel_rfl] at h1
  obtain ⟨x1, K1, o1⟩ := opens_strs enc w base spare held n _ _ h1
  have e : cs = (cs.drop 0).take 1 ++ ((cs.drop 1).take 1) := by
    have g0 : cs.drop 0 = (cs.drop 0).take 1 ++ cs.drop 1 := by rw [show cs.drop 1 = (cs.drop 0).drop 1 from by rw [List.drop_drop], List.take_append_drop]
    have g1 : cs.drop 1 = (cs.drop 1).take 1 ++ cs.drop 2 := by rw [show cs.drop 2 = (cs.drop 1).drop 1 from by rw [List.drop_drop], List.take_append_drop]
    have z : cs.drop 2 = [] := List.drop_eq_nil_of_le (by omega)
    rw [z, List.append_nil] at g1
    calc cs = cs.drop 0 := rfl
      _ = (cs.drop 0).take 1 ++ ((cs.drop 1).take 1) := by rw [← g1]; exact g0
  refine ⟨⟨x0, x1⟩, ?_, o0, o1⟩
  rw [e]
  exact ⟨_, _, rfl, K0, K1⟩
theorem opens_clauses : Opens Try.prog 23 (Kd.slice 60 k60) (fun l => OkInQ l) := opens_slice Try.underlying23 (by kernel_rfl) opens_clause
theorem opens_query : Opens Try.prog 25 k25 (fun x => OkInQ x.f0) := by
  intro H enc w base spare held fuel cs y h
  obtain ⟨xs, n, _, _, hl, hlen, hf⟩ := DataW.trod_struct Try.underlying25 h
  rw [show Try.prog.cellsOf 25 = 1 from by kernel_rfl] at hl
  have hlen' : xs.length = 1 := hlen
  have h0 := hf 0 _ rfl
  rw [List.getElem?_eq_getElem (l := xs) (i := 0) (by omega)] at h0
  replace h0 : DataW.trod enc Try.prog w base spare held n 23 ((cs.drop 0).take (Try.prog.cellsOf 23)) = some xs[0] := h0
  rw [show Try.prog.cellsOf 23 = 1 from by kernel_rfl] at h0
  obtain ⟨x0, K0, o0⟩ := opens_clauses enc w base spare held n _ _ h0
  have e : cs = (cs.drop 0).take 1 := by
    have g0 : cs.drop 0 = (cs.drop 0).take 1 ++ cs.drop 1 := by rw [show cs.drop 1 = (cs.drop 0).drop 1 from by rw [List.drop_drop], List.take_append_drop]
    have z : cs.drop 1 = [] := List.drop_eq_nil_of_le (by omega)
    rw [z, List.append_nil] at g0
    calc cs = cs.drop 0 := rfl
      _ = (cs.drop 0).take 1 := g0
  refine ⟨⟨x0⟩, ?_, o0⟩
  rw [e]
  exact K0
/-- Projections that came in. -/
def OkInD (l : List S36) : Prop := ∀ x ∈ l, (Lit.int .i64 x.f0).wf = true ∧ x.f1.size ≤ maxLen ∧ OkInQ x.f2.f0
theorem opens_def : Opens Try.prog 36 k36 (fun x => (Lit.int .i64 x.f0).wf = true ∧ x.f1.size ≤ maxLen ∧ OkInQ x.f2.f0) := by
  intro H enc w base spare held fuel cs y h
  obtain ⟨xs, n, _, _, hl, hlen, hf⟩ := DataW.trod_struct Try.underlying36 h
  rw [show Try.prog.cellsOf 36 = 3 from by kernel_rfl] at hl
  have hlen' : xs.length = 3 := hlen
  have h0 := hf 0 _ rfl
  rw [List.getElem?_eq_getElem (l := xs) (i := 0) (by omega)] at h0
  replace h0 : DataW.trod enc Try.prog w base spare held n 3 ((cs.drop 0).take (Try.prog.cellsOf 3)) = some xs[0] := h0
  rw [show Try.prog.cellsOf 3 = 1 from by kernel_rfl] at h0
  obtain ⟨x0, K0, o0⟩ := opens_i64 enc w base spare held n _ _ h0
  have h1 := hf 1 _ rfl
  rw [List.getElem?_eq_getElem (l := xs) (i := 1) (by omega)] at h1
  replace h1 : DataW.trod enc Try.prog w base spare held n 9 ((cs.drop 1).take (Try.prog.cellsOf 9)) = some xs[1] := h1
  rw [show Try.prog.cellsOf 9 = 1 from by kernel_rfl] at h1
  obtain ⟨x1, K1, o1⟩ := opens_str enc w base spare held n _ _ h1
  have h2 := hf 2 _ rfl
  rw [List.getElem?_eq_getElem (l := xs) (i := 2) (by omega)] at h2
  replace h2 : DataW.trod enc Try.prog w base spare held n 25 ((cs.drop 2).take (Try.prog.cellsOf 25)) = some xs[2] := h2
  rw [show Try.prog.cellsOf 25 = 1 from by kernel_rfl] at h2
  obtain ⟨x2, K2, o2⟩ := opens_query enc w base spare held n _ _ h2
  have e : cs = (cs.drop 0).take 1 ++ ((cs.drop 1).take 1 ++ ((cs.drop 2).take 1)) := by
    have g0 : cs.drop 0 = (cs.drop 0).take 1 ++ cs.drop 1 := by rw [show cs.drop 1 = (cs.drop 0).drop 1 from by rw [List.drop_drop], List.take_append_drop]
    have g1 : cs.drop 1 = (cs.drop 1).take 1 ++ cs.drop 2 := by rw [show cs.drop 2 = (cs.drop 1).drop 1 from by rw [List.drop_drop], List.take_append_drop]
    have g2 : cs.drop 2 = (cs.drop 2).take 1 ++ cs.drop 3 := by rw [show cs.drop 3 = (cs.drop 2).drop 1 from by rw [List.drop_drop], List.take_append_drop]
    have z : cs.drop 3 = [] := List.drop_eq_nil_of_le (by omega)
    rw [z, List.append_nil] at g2
    calc cs = cs.drop 0 := rfl
      _ = (cs.drop 0).take 1 ++ ((cs.drop 1).take 1 ++ ((cs.drop 2).take 1)) := by rw [← g2, ← g1]; exact g0
  refine ⟨⟨x0, x1, x2⟩, ?_, o0, o1, o2⟩
  rw [e]
  exact ⟨_, _, rfl, K0, ⟨_, _, rfl, K1, K2⟩⟩
theorem opens_defs : Opens Try.prog 26 (Kd.slice 36 k36) (fun l => OkInD l) := opens_slice Try.underlying26 (by kernel_rfl) opens_def
end Go.Proofs.Ytdpigeineephlaa.Gen
namespace Go.Proofs.Ytdpigeineephlaa.Prt
open Go.RowKit Go.Proofs.YtdpigeineephlaaW.PrintWords Go.Proofs.YtdpigeineephlaaW.PrintLast Go.Proofs.YtdpigeineephlaaW.PrintMore Go.Proofs.Ytdpigeineephlaa.Num Go.Proofs.Ytdpigeineephlaa.Nam Go.Proofs.Ytdpigeineephlaa.Gen
set_option linter.unusedVariables false
set_option linter.unusedSimpArgs false

theorem fitsQQcodeRefuses {l : List S60} (h : OkInQ l) : FitsQ l := fun x hx => h x hx
theorem fitsDQcodeRefuses {l : List S36} (h : OkInD l) : FitsD l := fun x hx => ⟨(h x hx).2.1, fitsQQcodeRefuses (h x hx).2.2⟩
theorem qcodeRefuses_law (vs : Value) (xs : List S36) (w : World) (y' : (Kd.slice 36 k36).K w xs [vs]) (hx' : OkInD xs) :
    Calls Try.prog 5 #[vs] w fun e w' => e = .returned (.bool true) ∧ Below w.heap.size w w' := by
  obtain ⟨A2, c2, e2, hc2, hC2⟩ := y'
  obtain rfl : vs = .slice A2 xs.length c2 := by simpa using e2
  exact registrarlaw07_QcodeRefuses.calls 100 A2 c2 xs true w hC2 hc2 (qcodeRefuses_true xs (fitsDQcodeRefuses hx'))
end Go.Proofs.Ytdpigeineephlaa.Prt

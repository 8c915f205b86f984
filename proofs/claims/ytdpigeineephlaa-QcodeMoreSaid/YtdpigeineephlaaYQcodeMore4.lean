/- Functions of the program, told as plain functions, with their walks: written by a program of this claim's out of the translation. Queries and projections: the document's example; what few and some answer; their bytes are told apart. Queries and projections taken, of plain functions. qcode.taken, of texts: its walk. qcode.taken, of clauses: its walk. The closures of qcode.Take. bytes.Equal. -/
import Derived.Shelf.Abstract
import Derived.Test.YtdpigeineephlaaYQcodeMore1
import Derived.Test.YtdpigeineephlaaYQcodeMore2
import Derived.Test.YtdpigeineephlaaYQcodeMore3
namespace Go.Proofs.Ytdpigeineephlaa.Prt
open Go.RowKit Go.Proofs.YtdpigeineephlaaW.PrintWords Go.Proofs.YtdpigeineephlaaW.PrintLast Go.Proofs.YtdpigeineephlaaW.PrintMore
attribute [local go_sem] max2_int min2_int max_two min_two max_three min_three max_four min_four   -- for this text's walks alone
set_option linter.unusedVariables false
set_option linter.unusedSimpArgs false

mutual
def registrarlaw07_few.l0 : Nat → Int → List (S60) → List (S60) → Option ((List (S60)))
  | 0, _, _, _ => none
  | k + 1, x4, x135000, x137000 => if x4 < (x135000.length : Int) then (registrarlaw07_few.j1 k x4 (decide (x4 < 8)) x135000 x137000) else (registrarlaw07_few.j1 k x4 false x135000 x137000)
def registrarlaw07_few.j1 : Nat → Int → Bool → List (S60) → List (S60) → Option ((List (S60)))
  | 0, _, _, _, _ => none
  | k + 1, x4, x15, x135000, x137000 => if x15 = true then (if 0 ≤ x4 then (if x4 < (x135000.length : Int) then (if (((rd_T60 x135000 x4).f0).length : Int) > 8 then (if 8 ≤ (((rd_T60 x135000 x4).f0).length : Int) then ((some (((rd_T60 x135000 x4).f0).take 8 : List ByteArray)).bind fun y139 => (if (((rd_T60 x135000 x4).f1).length : Int) > 8 then (if 8 ≤ (((rd_T60 x135000 x4).f1).length : Int) then (if x137000.length < 2932031007402 then (registrarlaw07_few.l0 k (wrap64 (x4 + 1)) x135000 (x137000 ++ [(⟨y139, (((rd_T60 x135000 x4).f1).take 8)⟩ : S60)])) else (none)) else (none)) else (if x137000.length < 2932031007402 then (registrarlaw07_few.l0 k (wrap64 (x4 + 1)) x135000 (x137000 ++ [(⟨y139, (rd_T60 x135000 x4).f1⟩ : S60)])) else (none)))) else (none)) else (if (((rd_T60 x135000 x4).f1).length : Int) > 8 then (if 8 ≤ (((rd_T60 x135000 x4).f1).length : Int) then (if x137000.length < 2932031007402 then (registrarlaw07_few.l0 k (wrap64 (x4 + 1)) x135000 (x137000 ++ [(⟨(rd_T60 x135000 x4).f0, (((rd_T60 x135000 x4).f1).take 8)⟩ : S60)])) else (none)) else (none)) else (if x137000.length < 2932031007402 then (registrarlaw07_few.l0 k (wrap64 (x4 + 1)) x135000 (x137000 ++ [(⟨(rd_T60 x135000 x4).f0, (rd_T60 x135000 x4).f1⟩ : S60)])) else (none)))) else (none)) else (none)) else (some x137000)
end
def registrarlaw07_few.f (k : Nat) (l0_0 : List (S60)) : Option ((List (S60))) := registrarlaw07_few.l0 k 0 l0_0 ([] : List (S60))
set_option maxHeartbeats 8000000 in
set_option maxRecDepth 100000 in
theorem registrarlaw07_few.calls (k : Nat) (P0_0_ : Nat → Prop) (A0_0 : Option Addr) (c0_0 : Nat) (l0_0 : List (S60)) (r : List (S60)) (w : World) (hs0_0 : Kd.V k60 60 w w.heap.size (fun k_ => P0_0_ k_) (.slice A0_0 l0_0.length c0_0) l0_0) (h : registrarlaw07_few.f k l0_0 = some r) :
    Calls Try.prog 11 #[.agg #[.slice A0_0 l0_0.length c0_0]] w fun e w' => ∃ v0_ : Value, e = .returned (.agg #[v0_]) ∧ Kd.N k60 60 w' w.heap.size (fun k_ => (P0_0_ k_ ∨ w.heap.size ≤ k_)) v0_ r ∧ Below w.heap.size w w' := by
  have hu25 := Try.underlying25
  have hu60 := Try.underlying60
  have HO0_0 := Aside0.mk (show Kd.V k60 60 w w.heap.size (fun k_ => (P0_0_ k_ ∨ w.heap.size ≤ k_)) (.slice A0_0 l0_0.length c0_0) l0_0 from Kd.V_mono hs0_0 (fun k_ hk => .inl hk))
  have HB := Aside0.mk (Below.refl w.heap.size w)
  have H : (registrarlaw07_few.l0 k 0 l0_0 ([] : List (S60))) = some r := h
  clear h
  have H' := Aside0.mk H
  clear H
  go_enter Try.func11, Try.ntmps11
  go_wp2_with (first | ((with_reducible refine gate_dst (N := 1) rfl ?_); refine box_event ?hg (N := 1) ?hd (cs := #[.slice A0_0 l0_0.length c0_0]) (t := 25) ?hr ?_; (case hd => rfl); (case hg => rfl); (case hr => first | (go_simp; done) | (go_simp; rfl)); intro gb134 hg w2 hbox hb; have n0_ := Aside0.mk (Kd.V_below (Kd.V_elderB (by (with_reducible repeat (first | apply Kd.V_alloc | apply Kd.V_drewN | apply Kd.V_drew)); exact HO0_0.out) gb134 (Nat.le_of_eq hg.symm)) hb); have n1_ := Aside0.mk (below_step (by repeat (first | (with_reducible first | exact HB.out | apply below_alloc | apply pw_below_drewN | apply below_drew1) | exact HB.out)) hb); have n2_ := Aside0.mk (hbox); have n3_ := Aside0.mk ((by rw [hg]; exact (below_size (by repeat (first | (with_reducible first | exact HB.out | apply below_alloc | apply pw_below_drewN | apply below_drew1) | exact HB.out))) : w.heap.size ≤ gb134)); have n4_ := Aside0.mk ((by rw [hg]; exact (below_size (by repeat (first | (with_reducible first | exact HB.out | apply below_alloc | apply pw_below_drewN | apply below_drew1) | exact HB.out))) : w.heap.size ≤ gb134)); clear HO0_0; clear HB; have HO0_0 := n0_; have HB := n1_; have BK134 := n2_; have GW134 := n3_; have GE134 := n4_; clear n0_ n1_ n2_ n3_ n4_; clear hb hbox hg) | ((with_reducible refine gate_dst (N := 2) rfl ?_); refine box_event ?hg (N := 2) ?hd (cs := #[.slice none 0 0]) (t := 25) ?hr ?_; (case hd => rfl); (case hg => rfl); (case hr => first | (go_simp; done) | (go_simp; rfl)); intro gb135 hg w3 hbox hb; have n0_ := Aside0.mk (Kd.V_below (Kd.V_elderB (by (with_reducible repeat (first | apply Kd.V_alloc | apply Kd.V_drewN | apply Kd.V_drew)); exact HO0_0.out) gb135 (Nat.le_of_eq hg.symm)) hb); have n1_ := Aside0.mk (blk_below (g := gb134) (o := .cells #[.slice A0_0 l0_0.length c0_0] 25 (0, 0)) (by (with_reducible repeat (first | refine blk_drewN ?_ _ | refine blk_drew ?_ | refine blk_alloc ?_ _)); exact BK134.out) hb); have n2_ := Aside0.mk (below_step (by repeat (first | (with_reducible first | exact HB.out | apply below_alloc | apply pw_below_drewN | apply below_drew1 | refine below_set ?_ GE134.out) | exact HB.out)) hb); have n3_ := Aside0.mk (hbox); have n4_ := Aside0.mk ((by rw [hg]; exact (below_size (by repeat (first | (with_reducible first | exact HB.out | apply below_alloc | apply pw_below_drewN | apply below_drew1 | refine below_set ?_ GE134.out) | exact HB.out))) : w.heap.size ≤ gb135)); have n5_ := Aside0.mk ((by rw [hg]; exact (below_size (by repeat (first | (with_reducible first | exact HB.out | apply below_alloc | apply pw_below_drewN | apply below_drew1 | refine below_set ?_ GE134.out) | exact HB.out))) : w.heap.size ≤ gb135)); have n6_ := Aside0.mk ((by rw [hg]; exact Nat.ne_of_lt (blk_lt (g := gb134) (o := .cells #[.slice A0_0 l0_0.length c0_0] 25 (0, 0)) (by (with_reducible repeat (first | refine blk_drewN ?_ _ | refine blk_drew ?_ | refine blk_alloc ?_ _)); exact BK134.out)) : gb134 ≠ gb135)); have n7_ := Aside0.mk ((by rw [hg]; exact Nat.ne_of_gt (blk_lt (g := gb134) (o := .cells #[.slice A0_0 l0_0.length c0_0] 25 (0, 0)) (by (with_reducible repeat (first | refine blk_drewN ?_ _ | refine blk_drew ?_ | refine blk_alloc ?_ _)); exact BK134.out)) : gb135 ≠ gb134)); clear HO0_0; clear BK134; clear HB; have HO0_0 := n0_; have BK134 := n1_; have HB := n2_; have BK135 := n3_; have GW135 := n4_; have GE135 := n5_; have NB134_135 := n6_; have NB135_134 := n7_; clear n0_ n1_ n2_ n3_ n4_ n5_ n6_ n7_; clear hb hbox hg) | ((with_reducible refine gate_dst (N := 3) rfl ?_); refine box_event ?hg (N := 3) ?hd (cs := #[.slice none 0 0]) (t := 25) ?hr ?_; (case hd => rfl); (case hg => rfl); (case hr => first | (go_simp; done) | (go_simp; rfl)); intro gb136 hg w4 hbox hb; have n0_ := Aside0.mk (Kd.V_below (Kd.V_elderB (by (with_reducible repeat (first | apply Kd.V_alloc | apply Kd.V_drewN | apply Kd.V_drew)); exact HO0_0.out) gb136 (Nat.le_of_eq hg.symm)) hb); have n1_ := Aside0.mk (blk_below (g := gb134) (o := .cells #[.slice A0_0 l0_0.length c0_0] 25 (0, 0)) (by (with_reducible repeat (first | refine blk_drewN ?_ _ | refine blk_drew ?_ | refine blk_alloc ?_ _)); exact BK134.out) hb); have n2_ := Aside0.mk (blk_below (g := gb135) (o := .cells #[.slice none 0 0] 25 (0, 0)) (by (with_reducible repeat (first | refine blk_drewN ?_ _ | refine blk_drew ?_ | refine blk_alloc ?_ _)); exact BK135.out) hb); have n3_ := Aside0.mk (below_step (by repeat (first | (with_reducible first | exact HB.out | apply below_alloc | apply pw_below_drewN | apply below_drew1 | refine below_set ?_ GE134.out | refine below_set ?_ GE135.out) | exact HB.out)) hb); have n4_ := Aside0.mk (hbox); have n5_ := Aside0.mk ((by rw [hg]; exact (below_size (by repeat (first | (with_reducible first | exact HB.out | apply below_alloc | apply pw_below_drewN | apply below_drew1 | refine below_set ?_ GE134.out | refine below_set ?_ GE135.out) | exact HB.out))) : w.heap.size ≤ gb136)); have n6_ := Aside0.mk ((by rw [hg]; exact (below_size (by repeat (first | (with_reducible first | exact HB.out | apply below_alloc | apply pw_below_drewN | apply below_drew1 | refine below_set ?_ GE134.out | refine below_set ?_ GE135.out) | exact HB.out))) : w.heap.size ≤ gb136)); have n7_ := Aside0.mk ((by rw [hg]; exact Nat.ne_of_lt (blk_lt (g := gb134) (o := .cells #[.slice A0_0 l0_0.length c0_0] 25 (0, 0)) (by (with_reducible repeat (first | refine blk_drewN ?_ _ | refine blk_drew ?_ | refine blk_alloc ?_ _)); exact BK134.out)) : gb134 ≠ gb136)); have n8_ := Aside0.mk ((by rw [hg]; exact Nat.ne_of_gt (blk_lt (g := gb134) (o := .cells #[.slice A0_0 l0_0.length c0_0] 25 (0, 0)) (by (with_reducible repeat (first | refine blk_drewN ?_ _ | refine blk_drew ?_ | refine blk_alloc ?_ _)); exact BK134.out)) : gb136 ≠ gb134)); have n9_ := Aside0.mk ((by rw [hg]; exact Nat.ne_of_lt (blk_lt (g := gb135) (o := .cells #[.slice none 0 0] 25 (0, 0)) (by (with_reducible repeat (first | refine blk_drewN ?_ _ | refine blk_drew ?_ | refine blk_alloc ?_ _)); exact BK135.out)) : gb135 ≠ gb136)); have n10_ := Aside0.mk ((by rw [hg]; exact Nat.ne_of_gt (blk_lt (g := gb135) (o := .cells #[.slice none 0 0] 25 (0, 0)) (by (with_reducible repeat (first | refine blk_drewN ?_ _ | refine blk_drew ?_ | refine blk_alloc ?_ _)); exact BK135.out)) : gb136 ≠ gb135)); clear HO0_0; clear BK134; clear BK135; clear HB; have HO0_0 := n0_; have BK134 := n1_; have BK135 := n2_; have HB := n3_; have BK136 := n4_; have GW136 := n5_; have GE136 := n6_; have NB134_136 := n7_; have NB136_134 := n8_; have NB135_136 := n9_; have NB136_135 := n10_; clear n0_ n1_ n2_ n3_ n4_ n5_ n6_ n7_ n8_ n9_ n10_; clear hb hbox hg; have hnb5 := NB136_134.out; have hnc5 := NB134_136.out; have hnb6 := NB136_135.out; have hnc6 := NB135_136.out; have hcz7_0 : w4.cell? ⟨gb136, 0, none⟩ = some (.slice none 0 0) := (blk_cell BK136.out 0).trans rfl; have hfz7_0 := blk_frozen BK136.out 0))
  go_loopg [4] k (fun kq v4 w' => ∃ (x4_1 : Int) (x137000_1 : List (S60)) (u137000 : Value), v4 = .int .i64 x4_1 ∧ Aside0 (registrarlaw07_few.l0 kq x4_1 l0_0 x137000_1 = some r) ∧ Aside0 (kq ≤ k) ∧ Aside0 (Kd.V k60 60 w' w.heap.size (fun k_ => (P0_0_ k_ ∨ w.heap.size ≤ k_) ∧ some k_ ≠ (u137000 : Value).ownBlock ∧ k_ ≠ gb134 ∧ k_ ≠ gb135 ∧ k_ ≠ gb136) (.slice A0_0 l0_0.length c0_0) l0_0) ∧ Aside0 (Kd.N k60 60 w' w.heap.size (fun k_ => (P0_0_ k_ ∨ w.heap.size ≤ k_) ∧ k_ ≠ gb134 ∧ k_ ≠ gb135 ∧ k_ ≠ gb136) u137000 x137000_1) ∧ Aside0 (w'.heap[gb134]? = some (.cells #[(.slice A0_0 l0_0.length c0_0)] 25 (0, 0))) ∧ Aside0 (w'.heap[gb135]? = some (.cells #[(.slice none 0 0)] 25 (0, 0))) ∧ Aside0 (w'.heap[gb136]? = some (.cells #[u137000] 25 (0, 0))) ∧ Aside0 (Below w.heap.size w w'))
  case atStart => exact ⟨(0), (([] : List (S60))), (.slice none 0 0), (by first | rfl | (simp; done) | (simp [*]; done)), H', ⟨Nat.le_refl _⟩, ⟨by (with_reducible repeat (first | apply Kd.V_alloc | apply Kd.V_drewN | apply Kd.V_drew)); exact Kd.V_mono (Kd.V_far (p := ⟨gb136, 0, none⟩) (Kd.V_mono HO0_0.out (fun k_ hk => (⟨hk, hk.2⟩ : _ ∧ k_ ≠ gb136))) (fun _ hk => hk.2) (.slice none 0 0)) (fun _ hk => ⟨hk.1.1.1.1, ⟨(by simp [Value.ownBlock]), ⟨hk.1.1.1.2, ⟨hk.1.1.2, hk.1.2⟩⟩⟩⟩)⟩, ⟨by first | exact Kd.S_nil _ _ _ _ _ | exact Kd.N_nil _ _ _ _ _ | exact Kd.V_nil _ _ _ _ _ | exact Kd.Q_nil _ _ _ _ _ | exact Kd.R_nil _ _ _ _ _⟩, ⟨by (with_reducible repeat (first | refine blk_drewN ?_ _ | refine blk_drew ?_ | refine blk_alloc ?_ _)); refine blk_far ?_ NB134_136.out _; (with_reducible repeat (first | refine blk_drewN ?_ _ | refine blk_drew ?_ | refine blk_alloc ?_ _)); exact BK134.out⟩, ⟨by (with_reducible repeat (first | refine blk_drewN ?_ _ | refine blk_drew ?_ | refine blk_alloc ?_ _)); refine blk_far ?_ NB135_136.out _; (with_reducible repeat (first | refine blk_drewN ?_ _ | refine blk_drew ?_ | refine blk_alloc ?_ _)); exact BK135.out⟩, ⟨by (with_reducible repeat (first | refine blk_drewN ?_ _ | refine blk_drew ?_ | refine blk_alloc ?_ _)); refine blk_put (cs := #[.slice none 0 0]) ?_ 0 _ rfl; (with_reducible repeat (first | refine blk_drewN ?_ _ | refine blk_drew ?_ | refine blk_alloc ?_ _)); exact BK136.out⟩, ⟨by repeat (first | (with_reducible first | exact HB.out | apply below_alloc | apply pw_below_drewN | apply below_drew1 | refine below_set ?_ GE134.out | refine below_set ?_ GE135.out | refine below_set ?_ GE136.out) | exact HB.out)⟩⟩
  case round =>
    clear H'
    try clear c1
    try clear p2
    try clear c5
    try clear c6
    try clear hcz7_0
    try clear hfz7_0
    obtain ⟨x4_1, x137000_1, u137000, rfl, HA, HK1, HO_135000, HO_137000, BK134, BK135, BK136, HB⟩ := hrel
    cases gk with
    | zero => exact absurd HA.out (by simp [registrarlaw07_few.l0])
    | succ k1 =>
      have H := HA.out
      clear HA
      simp only [registrarlaw07_few.l0] at H
      have HC8 := Aside0.mk H
      clear H
      go_upto_region 3 with (fail)
      go_cut [15] (fun v15 wc => ∃ (kq : Nat) (x15_7 : Bool), v15 = .bool x15_7 ∧ Aside0 (registrarlaw07_few.j1 kq x4_1 x15_7 l0_0 x137000_1 = some r) ∧ Aside0 (kq ≤ k1) ∧ Aside0 (Kd.V k60 60 wc w.heap.size (fun k_ => (P0_0_ k_ ∨ w.heap.size ≤ k_) ∧ some k_ ≠ (u137000 : Value).ownBlock ∧ k_ ≠ gb134 ∧ k_ ≠ gb135 ∧ k_ ≠ gb136) (.slice A0_0 l0_0.length c0_0) l0_0) ∧ Aside0 (Kd.N k60 60 wc w.heap.size (fun k_ => (P0_0_ k_ ∨ w.heap.size ≤ k_) ∧ k_ ≠ gb134 ∧ k_ ≠ gb135 ∧ k_ ≠ gb136) u137000 x137000_1) ∧ Aside0 (wc.heap[gb134]? = some (.cells #[(.slice A0_0 l0_0.length c0_0)] 25 (0, 0))) ∧ Aside0 (wc.heap[gb135]? = some (.cells #[(.slice none 0 0)] 25 (0, 0))) ∧ Aside0 (wc.heap[gb136]? = some (.cells #[u137000] 25 (0, 0))) ∧ Aside0 (Below w.heap.size w wc))
      case first =>
        have H := HC8.out
        clear HC8
        by_cases c9 : x4_1 < (l0_0.length : Int)
        · rw [if_pos c9] at H
          have c9b0 : decide (x4_1 < (l0_0.length : Int)) = true := decide_eq_true c9
          clear c9
          (first | rw [c9b0] | (simp only [i64_w, i32_w]; rw [c9b0]) | skip)
          have H' := Aside0.mk H
          clear H
          have hnb10 := NB134_135.out
          have hnc10 := NB135_134.out
          have hnb11 := NB134_136.out
          have hnc11 := NB136_134.out
          have hcz12_0 : wr.cell? ⟨gb134, 0, none⟩ = some (.slice A0_0 l0_0.length c0_0) := (blk_cell BK134.out 0).trans rfl
          have hfz12_0 := blk_frozen BK134.out 0
          go_wp2
          go_meet
          case rel => exact ⟨_, (decide (x4_1 < 8)), (by first | rfl | (simp; done) | (simp [*]; done)), H', ⟨by have := HK1.out; first | omega | exact Nat.le_refl _⟩, ⟨by (with_reducible repeat (first | apply Kd.V_alloc | apply Kd.V_drewN | apply Kd.V_drew)); exact HO_135000.out⟩, ⟨by (with_reducible repeat (first | apply Kd.N_alloc | apply Kd.N_drewN | apply Kd.N_drew)); exact HO_137000.out⟩, ⟨by (with_reducible repeat (first | refine blk_drewN ?_ _ | refine blk_drew ?_ | refine blk_alloc ?_ _)); exact BK134.out⟩, ⟨by (with_reducible repeat (first | refine blk_drewN ?_ _ | refine blk_drew ?_ | refine blk_alloc ?_ _)); exact BK135.out⟩, ⟨by (with_reducible repeat (first | refine blk_drewN ?_ _ | refine blk_drew ?_ | refine blk_alloc ?_ _)); exact BK136.out⟩, ⟨by repeat (first | (with_reducible first | exact HB.out | apply below_alloc | apply pw_below_drewN | apply below_drew1 | refine below_set ?_ GE134.out | refine below_set ?_ GE135.out | refine below_set ?_ GE136.out) | exact HB.out)⟩⟩
        · rw [if_neg c9] at H
          have c9b0 : decide (x4_1 < (l0_0.length : Int)) = false := decide_eq_false c9
          clear c9
          (first | rw [c9b0] | (simp only [i64_w, i32_w]; rw [c9b0]) | skip)
          have H' := Aside0.mk H
          clear H
          have hnb13 := NB134_135.out
          have hnc13 := NB135_134.out
          have hnb14 := NB134_136.out
          have hnc14 := NB136_134.out
          have hcz15_0 : wr.cell? ⟨gb134, 0, none⟩ = some (.slice A0_0 l0_0.length c0_0) := (blk_cell BK134.out 0).trans rfl
          have hfz15_0 := blk_frozen BK134.out 0
          go_wp2
          go_meet
          case rel => exact ⟨_, (false), (by first | rfl | (simp; done) | (simp [*]; done)), H', ⟨by have := HK1.out; first | omega | exact Nat.le_refl _⟩, ⟨by (with_reducible repeat (first | apply Kd.V_alloc | apply Kd.V_drewN | apply Kd.V_drew)); exact HO_135000.out⟩, ⟨by (with_reducible repeat (first | apply Kd.N_alloc | apply Kd.N_drewN | apply Kd.N_drew)); exact HO_137000.out⟩, ⟨by (with_reducible repeat (first | refine blk_drewN ?_ _ | refine blk_drew ?_ | refine blk_alloc ?_ _)); exact BK134.out⟩, ⟨by (with_reducible repeat (first | refine blk_drewN ?_ _ | refine blk_drew ?_ | refine blk_alloc ?_ _)); exact BK135.out⟩, ⟨by (with_reducible repeat (first | refine blk_drewN ?_ _ | refine blk_drew ?_ | refine blk_alloc ?_ _)); exact BK136.out⟩, ⟨by repeat (first | (with_reducible first | exact HB.out | apply below_alloc | apply pw_below_drewN | apply below_drew1 | refine below_set ?_ GE134.out | refine below_set ?_ GE135.out | refine below_set ?_ GE136.out) | exact HB.out)⟩⟩
      case rest =>
        clear HC8
        try clear c1
        try clear p2
        try clear c5
        try clear c6
        try clear c9
        try clear c9b0
        try clear c10
        try clear c11
        try clear c13
        try clear c14
        try clear hcz12_0
        try clear hcz15_0
        try clear hcz7_0
        try clear hfz12_0
        try clear hfz15_0
        try clear hfz7_0
        try clear p2
        obtain ⟨kq, x15_7, rfl, HA, HJ7, HO_135000, HO_137000, BK134, BK135, BK136, HB⟩ := hcut
        cases kq with
        | zero => exact absurd HA.out (by simp [registrarlaw07_few.j1])
        | succ kj7 =>
          have H := HA.out
          clear HA
          simp only [registrarlaw07_few.j1] at H
          by_cases c16 : x15_7 = true
          · subst c16
            have H1 : (if 0 ≤ x4_1 then (if x4_1 < (l0_0.length : Int) then (if (((rd_T60 l0_0 x4_1).f0).length : Int) > 8 then (if 8 ≤ (((rd_T60 l0_0 x4_1).f0).length : Int) then ((some (((rd_T60 l0_0 x4_1).f0).take 8 : List ByteArray)).bind fun y139 => (if (((rd_T60 l0_0 x4_1).f1).length : Int) > 8 then (if 8 ≤ (((rd_T60 l0_0 x4_1).f1).length : Int) then (if x137000_1.length < 2932031007402 then (registrarlaw07_few.l0 kj7 (wrap64 (x4_1 + 1)) l0_0 (x137000_1 ++ [(⟨y139, (((rd_T60 l0_0 x4_1).f1).take 8)⟩ : S60)])) else (none)) else (none)) else (if x137000_1.length < 2932031007402 then (registrarlaw07_few.l0 kj7 (wrap64 (x4_1 + 1)) l0_0 (x137000_1 ++ [(⟨y139, (rd_T60 l0_0 x4_1).f1⟩ : S60)])) else (none)))) else (none)) else (if (((rd_T60 l0_0 x4_1).f1).length : Int) > 8 then (if 8 ≤ (((rd_T60 l0_0 x4_1).f1).length : Int) then (if x137000_1.length < 2932031007402 then (registrarlaw07_few.l0 kj7 (wrap64 (x4_1 + 1)) l0_0 (x137000_1 ++ [(⟨(rd_T60 l0_0 x4_1).f0, (((rd_T60 l0_0 x4_1).f1).take 8)⟩ : S60)])) else (none)) else (none)) else (if x137000_1.length < 2932031007402 then (registrarlaw07_few.l0 kj7 (wrap64 (x4_1 + 1)) l0_0 (x137000_1 ++ [(⟨(rd_T60 l0_0 x4_1).f0, (rd_T60 l0_0 x4_1).f1⟩ : S60)])) else (none)))) else (none)) else (none)) = some r := by rw [if_pos rfl] at H; exact H
            clear H
            have H := H1
            clear H1
            by_cases c17 : 0 ≤ x4_1
            · rw [if_pos c17] at H
              have c17b0 : decide (0 ≤ x4_1) = true := decide_eq_true c17
              clear c17
              by_cases c18 : x4_1 < (l0_0.length : Int)
              · rw [if_pos c18] at H
                have c18b0 : decide (x4_1 < (l0_0.length : Int)) = true := decide_eq_true c18
                clear c18
                by_cases c19 : (((rd_T60 l0_0 x4_1).f0).length : Int) > 8
                · rw [if_pos c19] at H
                  have c19b0 : decide (8 < (((rd_T60 l0_0 x4_1).f0).length : Int)) = true := decide_eq_true c19
                  have c19b1 : decide (8 < ((rd_T60 l0_0 x4_1).f0).length) = true := decide_eq_true (by omega)
                  clear c19
                  by_cases c20 : 8 ≤ (((rd_T60 l0_0 x4_1).f0).length : Int)
                  · rw [if_pos c20] at H
                    have c20b0 := eq_true c20
                    have c20b1 : decide (8 ≤ (((rd_T60 l0_0 x4_1).f0).length : Int)) = true := decide_eq_true c20
                    clear c20
                    obtain ⟨y139, hy139⟩ : ∃ y_ : List ByteArray, y_ = (((rd_T60 l0_0 x4_1).f0).take 8) := ⟨_, rfl⟩
                    replace H : (if (((rd_T60 l0_0 x4_1).f1).length : Int) > 8 then (if 8 ≤ (((rd_T60 l0_0 x4_1).f1).length : Int) then (if x137000_1.length < 2932031007402 then (registrarlaw07_few.l0 kj7 (wrap64 (x4_1 + 1)) l0_0 (x137000_1 ++ [(⟨y139, (((rd_T60 l0_0 x4_1).f1).take 8)⟩ : S60)])) else (none)) else (none)) else (if x137000_1.length < 2932031007402 then (registrarlaw07_few.l0 kj7 (wrap64 (x4_1 + 1)) l0_0 (x137000_1 ++ [(⟨y139, (rd_T60 l0_0 x4_1).f1⟩ : S60)])) else (none))) = some r := by first | (rw [hy139]; with_reducible exact H) | (have H2_ := (Option.bind_some _ _).symm.trans H; rw [hy139]; with_reducible exact H2_) | (have H2_ := (Option.bind_some _ _).symm.trans H; with_reducible exact H2_) | with_reducible exact H | (rw [hy139]; exact H) | exact H
                    have Ny139 := Aside0.mk hy139
                    clear hy139
                    by_cases c21 : (((rd_T60 l0_0 x4_1).f1).length : Int) > 8
                    · rw [if_pos c21] at H
                      have c21b0 : decide (8 < (((rd_T60 l0_0 x4_1).f1).length : Int)) = true := decide_eq_true c21
                      have c21b1 : decide (8 < ((rd_T60 l0_0 x4_1).f1).length) = true := decide_eq_true (by omega)
                      clear c21
                      by_cases c22 : 8 ≤ (((rd_T60 l0_0 x4_1).f1).length : Int)
                      · rw [if_pos c22] at H
                        have c22b0 := eq_true c22
                        have c22b1 : decide (8 ≤ (((rd_T60 l0_0 x4_1).f1).length : Int)) = true := decide_eq_true c22
                        clear c22
                        obtain ⟨y144, hy144⟩ : ∃ y_ : List ByteArray, y_ = (((rd_T60 l0_0 x4_1).f1).take 8) := ⟨_, rfl⟩
                        replace H : (if x137000_1.length < 2932031007402 then (registrarlaw07_few.l0 kj7 (wrap64 (x4_1 + 1)) l0_0 (x137000_1 ++ [(⟨y139, y144⟩ : S60)])) else (none)) = some r := by first | (rw [hy144]; with_reducible exact H) | (have H2_ := (Option.bind_some _ _).symm.trans H; rw [hy144]; with_reducible exact H2_) | (have H2_ := (Option.bind_some _ _).symm.trans H; with_reducible exact H2_) | with_reducible exact H | (rw [hy144]; exact H) | exact H
                        have Ny144 := Aside0.mk hy144
                        clear hy144
                        by_cases c23 : x137000_1.length < 2932031007402
                        · rw [if_pos c23] at H
                          have LMc23 := Aside0.mk c23
                          clear c23
                          obtain ⟨y149, hy149⟩ : ∃ y_ : List (S60), y_ = (x137000_1 ++ [(⟨y139, y144⟩ : S60)]) := ⟨_, rfl⟩
                          replace H : (registrarlaw07_few.l0 kj7 (wrap64 (x4_1 + 1)) l0_0 y149) = some r := by first | (rw [hy149]; with_reducible exact H) | (have H2_ := (Option.bind_some _ _).symm.trans H; rw [hy149]; with_reducible exact H2_) | (have H2_ := (Option.bind_some _ _).symm.trans H; with_reducible exact H2_) | with_reducible exact H | (rw [hy149]; exact H) | exact H
                          have Ny149 := Aside0.mk hy149
                          clear hy149
                          have H' := Aside0.mk H
                          clear H
                          have hnb24 := NB134_135.out
                          have hnc24 := NB135_134.out
                          have hnb25 := NB134_136.out
                          have hnc25 := NB136_134.out
                          have hcz26_0 : wc.cell? ⟨gb134, 0, none⟩ = some (.slice A0_0 l0_0.length c0_0) := (blk_cell BK134.out 0).trans rfl
                          have hfz26_0 := blk_frozen BK134.out 0
                          have p137 : 0 ≤ (x4_1 : Int) := of_decide_eq_true (by first | (with_reducible assumption) | assumption)
                          have q137 : x4_1 < (l0_0.length : Int) := of_decide_eq_true (by first | (with_reducible assumption) | assumption)
                          obtain ⟨ad137, A137_0, c137_0, A137_1, c137_1, e137, hx137_0, hx137_1, hl137_0, hi137_0, hl137_1, hi137_1⟩ := at_T60 (Kd.V_reads' HO_135000.out).2.2 x4_1 p137 q137
                          cases e137
                          obtain ⟨ce137, hce137, hMe137, hcc137⟩ := Kd.V_get HO_135000.out z60 x4_1 p137 (by first | exact q137 | exact of_decide_eq_true (by first | (with_reducible assumption) | assumption) | (have e_ := (Kd.V_reads' HO_135000.out).1; omega))
                          obtain ⟨ua137_0, uc137_0, ua137_1, uc137_1, rfl, ul137_0, ge137_0, ul137_1, ge137_1⟩ := k60_openF hMe137
                          have hv137_0 := hcc137 0 _ rfl
                          rw [Nat.add_zero] at hv137_0
                          replace hv137_0 := Option.some.inj (hv137_0.symm.trans hx137_0)
                          injection hv137_0 with hva_ hvn_ hvc_
                          rw [hva_] at ge137_0
                          rw [hvc_] at ul137_0
                          have HL137_0 := Aside0.mk (show Kd.V Kd.string 9 _ w.heap.size _ _ ((rd_T60 l0_0 x4_1).f0) from Kd.V_mk ul137_0 ge137_0)
                          clear hva_ hvn_ hvc_ ge137_0 ul137_0
                          have hv137_1 := hcc137 1 _ rfl
                          rw [add_field _ _ 1 (by omega)] at hv137_1
                          replace hv137_1 := Option.some.inj (hv137_1.symm.trans hx137_1)
                          injection hv137_1 with hva_ hvn_ hvc_
                          rw [hva_] at ge137_1
                          rw [hvc_] at ul137_1
                          have HL137_1 := Aside0.mk (show Kd.V Kd.string 9 _ w.heap.size _ _ ((rd_T60 l0_0 x4_1).f1) from Kd.V_mk ul137_1 ge137_1)
                          clear hva_ hvn_ hvc_ ge137_1 ul137_1
                          clear hcc137 hce137
                          have HR137_0 := Aside0.mk hi137_0
                          have HC137_0 := Aside0.mk hl137_0
                          clear hi137_0 hl137_0
                          have HR137_1 := Aside0.mk hi137_1
                          have HC137_1 := Aside0.mk hl137_1
                          clear hi137_1 hl137_1
                          replace p137 := eq_true p137
                          replace q137 := eq_true q137
                          go_wp2_with (first | ((with_reducible refine gate_dst (N := 5) rfl ?_); refine box_event ?hg (N := 5) ?hd (cs := #[.slice none 0 0, .slice none 0 0]) (t := 60) ?hr ?_; (case hd => rfl); (case hg => rfl); (case hr => first | (go_simp; done) | (go_simp; rfl)); intro gb138 hg w27 hbox hb; have n0_ := Aside0.mk (Kd.V_below (Kd.V_elderB (by (with_reducible repeat (first | apply Kd.V_alloc | apply Kd.V_drewN | apply Kd.V_drew)); exact HO_135000.out) gb138 (Nat.le_of_eq hg.symm)) hb); have n1_ := Aside0.mk (Kd.N_below (Kd.N_elderB (by (with_reducible repeat (first | apply Kd.N_alloc | apply Kd.N_drewN | apply Kd.N_drew)); exact HO_137000.out) gb138 (Nat.le_of_eq hg.symm)) hb); have n2_ := Aside0.mk (Kd.V_below (Kd.V_elderB (by (with_reducible repeat (first | apply Kd.V_alloc | apply Kd.V_drewN | apply Kd.V_drew)); exact HL137_0.out) gb138 (Nat.le_of_eq hg.symm)) hb); have n3_ := Aside0.mk (Kd.V_below (Kd.V_elderB (by (with_reducible repeat (first | apply Kd.V_alloc | apply Kd.V_drewN | apply Kd.V_drew)); exact HL137_1.out) gb138 (Nat.le_of_eq hg.symm)) hb); have n4_ := Aside0.mk (blk_below (g := gb134) (o := .cells #[.slice (some ad137) l0_0.length c0_0] 25 (0, 0)) (by (with_reducible repeat (first | refine blk_drewN ?_ _ | refine blk_drew ?_ | refine blk_alloc ?_ _)); exact BK134.out) hb); have n5_ := Aside0.mk (blk_below (g := gb135) (o := .cells #[.slice none 0 0] 25 (0, 0)) (by (with_reducible repeat (first | refine blk_drewN ?_ _ | refine blk_drew ?_ | refine blk_alloc ?_ _)); exact BK135.out) hb); have n6_ := Aside0.mk (blk_below (g := gb136) (o := .cells #[u137000] 25 (0, 0)) (by (with_reducible repeat (first | refine blk_drewN ?_ _ | refine blk_drew ?_ | refine blk_alloc ?_ _)); exact BK136.out) hb); have n7_ := Aside0.mk (Kd.C_below (by repeat (first | (with_reducible exact HR137_0.out) | (with_reducible refine Kd.C_alloc ?_ _) | (with_reducible refine Kd.C_drewN ?_ _) | (with_reducible refine Kd.C_drew ?_) | exact HR137_0.out | exact (Kd.V_reads' HL137_0.out).2.2)) hb); have n8_ := Aside0.mk (Kd.C_below (by repeat (first | (with_reducible exact HR137_1.out) | (with_reducible refine Kd.C_alloc ?_ _) | (with_reducible refine Kd.C_drewN ?_ _) | (with_reducible refine Kd.C_drew ?_) | exact HR137_1.out | exact (Kd.V_reads' HL137_1.out).2.2)) hb); have n9_ := Aside0.mk (below_step (by repeat (first | (with_reducible first | exact HB.out | apply below_alloc | apply pw_below_drewN | apply below_drew1 | refine below_set ?_ GE134.out | refine below_set ?_ GE135.out | refine below_set ?_ GE136.out) | exact HB.out)) hb); have n10_ := Aside0.mk (hbox); have n11_ := Aside0.mk ((by rw [hg]; exact (below_size (by repeat (first | (with_reducible first | exact HB.out | apply below_alloc | apply pw_below_drewN | apply below_drew1 | refine below_set ?_ GE134.out | refine below_set ?_ GE135.out | refine below_set ?_ GE136.out) | exact HB.out))) : w.heap.size ≤ gb138)); have n12_ := Aside0.mk ((by rw [hg]; exact (below_size (by repeat (first | (with_reducible first | exact HB.out | apply below_alloc | apply pw_below_drewN | apply below_drew1 | refine below_set ?_ GE134.out | refine below_set ?_ GE135.out | refine below_set ?_ GE136.out) | exact HB.out))) : w.heap.size ≤ gb138)); have n13_ := Aside0.mk ((by rw [hg]; exact Nat.ne_of_lt (blk_lt (g := gb134) (o := .cells #[.slice (some ad137) l0_0.length c0_0] 25 (0, 0)) (by (with_reducible repeat (first | refine blk_drewN ?_ _ | refine blk_drew ?_ | refine blk_alloc ?_ _)); exact BK134.out)) : gb134 ≠ gb138)); have n14_ := Aside0.mk ((by rw [hg]; exact Nat.ne_of_gt (blk_lt (g := gb134) (o := .cells #[.slice (some ad137) l0_0.length c0_0] 25 (0, 0)) (by (with_reducible repeat (first | refine blk_drewN ?_ _ | refine blk_drew ?_ | refine blk_alloc ?_ _)); exact BK134.out)) : gb138 ≠ gb134)); have n15_ := Aside0.mk ((by rw [hg]; exact Nat.ne_of_lt (blk_lt (g := gb135) (o := .cells #[.slice none 0 0] 25 (0, 0)) (by (with_reducible repeat (first | refine blk_drewN ?_ _ | refine blk_drew ?_ | refine blk_alloc ?_ _)); exact BK135.out)) : gb135 ≠ gb138)); have n16_ := Aside0.mk ((by rw [hg]; exact Nat.ne_of_gt (blk_lt (g := gb135) (o := .cells #[.slice none 0 0] 25 (0, 0)) (by (with_reducible repeat (first | refine blk_drewN ?_ _ | refine blk_drew ?_ | refine blk_alloc ?_ _)); exact BK135.out)) : gb138 ≠ gb135)); have n17_ := Aside0.mk ((by rw [hg]; exact Nat.ne_of_lt (blk_lt (g := gb136) (o := .cells #[u137000] 25 (0, 0)) (by (with_reducible repeat (first | refine blk_drewN ?_ _ | refine blk_drew ?_ | refine blk_alloc ?_ _)); exact BK136.out)) : gb136 ≠ gb138)); have n18_ := Aside0.mk ((by rw [hg]; exact Nat.ne_of_gt (blk_lt (g := gb136) (o := .cells #[u137000] 25 (0, 0)) (by (with_reducible repeat (first | refine blk_drewN ?_ _ | refine blk_drew ?_ | refine blk_alloc ?_ _)); exact BK136.out)) : gb138 ≠ gb136)); clear HO_135000; clear HO_137000; clear HL137_0; clear HL137_1; clear BK134; clear BK135; clear BK136; clear HR137_0; clear HR137_1; clear HB; have HO_135000 := n0_; have HO_137000 := n1_; have HL137_0 := n2_; have HL137_1 := n3_; have BK134 := n4_; have BK135 := n5_; have BK136 := n6_; have HR137_0 := n7_; have HR137_1 := n8_; have HB := n9_; have BK138 := n10_; have GW138 := n11_; have GE138 := n12_; have NB134_138 := n13_; have NB138_134 := n14_; have NB135_138 := n15_; have NB138_135 := n16_; have NB136_138 := n17_; have NB138_136 := n18_; clear n0_ n1_ n2_ n3_ n4_ n5_ n6_ n7_ n8_ n9_ n10_ n11_ n12_ n13_ n14_ n15_ n16_ n17_ n18_; clear hb hbox hg; have hnb28 := NB138_134.out; have hnc28 := NB134_138.out; have hnb29 := NB138_135.out; have hnc29 := NB135_138.out; have hnb30 := NB138_136.out; have hnc30 := NB136_138.out; have hcz31_0 : w27.cell? ⟨gb138, 0, none⟩ = some (.slice none 0 0) := (blk_cell BK138.out 0).trans rfl; have hcz31_1 : w27.cell? ⟨gb138, 1, none⟩ = some (.slice none 0 0) := (blk_cell BK138.out 1).trans rfl; have hfz31_0 := blk_frozen BK138.out 0; have hfz31_1 := blk_frozen BK138.out 1) | ((with_reducible refine gate_store (t := 60) (p := 5) rfl ?_); refine store_event (t := 60) (p := 5) (v := ?vo_w32) (w1 := ((w27.setCell ⟨gb138, 0, none⟩ (.slice A137_0 ((rd_T60 l0_0 x4_1).f0).length c137_0)).setCell ⟨gb138, 1, none⟩ (.slice A137_1 ((rd_T60 l0_0 x4_1).f1).length c137_1))) ?hg ?ho ?hn ?hr ?_; (case ho => rfl); (case hg => rfl); (case hn => rfl); (case hr => first | (go_simp; done) | (go_simp; rfl)); intro w32 hw; have n0_ : Aside0 (Kd.V k60 60 w32 w.heap.size (fun k_ => (P0_0_ k_ ∨ w.heap.size ≤ k_) ∧ some k_ ≠ (u137000 : Value).ownBlock ∧ k_ ≠ gb134 ∧ k_ ≠ gb135 ∧ k_ ≠ gb136 ∧ k_ ≠ gb138) (.slice (some ad137) l0_0.length c0_0) l0_0) := ⟨(by rw [hw]; exact (by (with_reducible repeat (first | apply Kd.V_alloc | apply Kd.V_drewN | apply Kd.V_drew)); exact Kd.V_mono (Kd.V_far (p := ⟨gb138, 1, none⟩) (Kd.V_far (p := ⟨gb138, 0, none⟩) (Kd.V_mono HO_135000.out (fun k_ hk => (⟨hk, hk.2⟩ : _ ∧ k_ ≠ gb138))) (fun _ hk => hk.2) (.slice A137_0 ((rd_T60 l0_0 x4_1).f0).length c137_0)) (fun _ hk => hk.2) (.slice A137_1 ((rd_T60 l0_0 x4_1).f1).length c137_1)) (fun _ hk => ⟨hk.1.1.1, ⟨hk.1.1.2.1, ⟨hk.1.1.2.2.1, ⟨hk.1.1.2.2.2.1, ⟨hk.1.1.2.2.2.2, hk.1.2⟩⟩⟩⟩⟩)))⟩; have n1_ : Aside0 (Kd.N k60 60 w32 w.heap.size (fun k_ => (P0_0_ k_ ∨ w.heap.size ≤ k_) ∧ k_ ≠ gb134 ∧ k_ ≠ gb135 ∧ k_ ≠ gb136 ∧ k_ ≠ gb138) u137000 x137000_1) := ⟨(by rw [hw]; exact (by (with_reducible repeat (first | apply Kd.N_alloc | apply Kd.N_drewN | apply Kd.N_drew)); exact Kd.N_mono (Kd.N_far (p := ⟨gb138, 1, none⟩) (Kd.N_far (p := ⟨gb138, 0, none⟩) (Kd.N_mono HO_137000.out (fun k_ hk => (⟨hk, hk.2⟩ : _ ∧ k_ ≠ gb138))) (fun _ hk => hk.2) (.slice A137_0 ((rd_T60 l0_0 x4_1).f0).length c137_0)) (fun _ hk => hk.2) (.slice A137_1 ((rd_T60 l0_0 x4_1).f1).length c137_1)) (fun _ hk => ⟨hk.1.1.1, ⟨hk.1.1.2.1, ⟨hk.1.1.2.2.1, ⟨hk.1.1.2.2.2, hk.1.2⟩⟩⟩⟩)))⟩; have n2_ : Aside0 (Kd.V Kd.string 9 w32 w.heap.size (fun k_ => (P0_0_ k_ ∨ w.heap.size ≤ k_) ∧ some k_ ≠ (u137000 : Value).ownBlock ∧ k_ ≠ gb134 ∧ k_ ≠ gb135 ∧ k_ ≠ gb136 ∧ k_ ≠ gb138) (.slice A137_0 ((rd_T60 l0_0 x4_1).f0).length c137_0) ((rd_T60 l0_0 x4_1).f0)) := ⟨(by rw [hw]; exact (by (with_reducible repeat (first | apply Kd.V_alloc | apply Kd.V_drewN | apply Kd.V_drew)); exact Kd.V_mono (Kd.V_far (p := ⟨gb138, 1, none⟩) (Kd.V_far (p := ⟨gb138, 0, none⟩) (Kd.V_mono HL137_0.out (fun k_ hk => (⟨hk, hk.2⟩ : _ ∧ k_ ≠ gb138))) (fun _ hk => hk.2) (.slice A137_0 ((rd_T60 l0_0 x4_1).f0).length c137_0)) (fun _ hk => hk.2) (.slice A137_1 ((rd_T60 l0_0 x4_1).f1).length c137_1)) (fun _ hk => ⟨hk.1.1.1, ⟨hk.1.1.2.1, ⟨hk.1.1.2.2.1, ⟨hk.1.1.2.2.2.1, ⟨hk.1.1.2.2.2.2, hk.1.2⟩⟩⟩⟩⟩)))⟩; have n3_ : Aside0 (Kd.V Kd.string 9 w32 w.heap.size (fun k_ => (P0_0_ k_ ∨ w.heap.size ≤ k_) ∧ some k_ ≠ (u137000 : Value).ownBlock ∧ k_ ≠ gb134 ∧ k_ ≠ gb135 ∧ k_ ≠ gb136 ∧ k_ ≠ gb138) (.slice A137_1 ((rd_T60 l0_0 x4_1).f1).length c137_1) ((rd_T60 l0_0 x4_1).f1)) := ⟨(by rw [hw]; exact (by (with_reducible repeat (first | apply Kd.V_alloc | apply Kd.V_drewN | apply Kd.V_drew)); exact Kd.V_mono (Kd.V_far (p := ⟨gb138, 1, none⟩) (Kd.V_far (p := ⟨gb138, 0, none⟩) (Kd.V_mono HL137_1.out (fun k_ hk => (⟨hk, hk.2⟩ : _ ∧ k_ ≠ gb138))) (fun _ hk => hk.2) (.slice A137_0 ((rd_T60 l0_0 x4_1).f0).length c137_0)) (fun _ hk => hk.2) (.slice A137_1 ((rd_T60 l0_0 x4_1).f1).length c137_1)) (fun _ hk => ⟨hk.1.1.1, ⟨hk.1.1.2.1, ⟨hk.1.1.2.2.1, ⟨hk.1.1.2.2.2.1, ⟨hk.1.1.2.2.2.2, hk.1.2⟩⟩⟩⟩⟩)))⟩; have n4_ : Aside0 (w32.heap[gb134]? = some (.cells #[.slice (some ad137) l0_0.length c0_0] 25 (0, 0))) := ⟨(by rw [hw]; exact (by (with_reducible repeat (first | refine blk_drewN ?_ _ | refine blk_drew ?_ | refine blk_alloc ?_ _)); refine blk_far ?_ NB134_138.out _; (with_reducible repeat (first | refine blk_drewN ?_ _ | refine blk_drew ?_ | refine blk_alloc ?_ _)); refine blk_far ?_ NB134_138.out _; (with_reducible repeat (first | refine blk_drewN ?_ _ | refine blk_drew ?_ | refine blk_alloc ?_ _)); exact BK134.out))⟩; have n5_ : Aside0 (w32.heap[gb135]? = some (.cells #[.slice none 0 0] 25 (0, 0))) := ⟨(by rw [hw]; exact (by (with_reducible repeat (first | refine blk_drewN ?_ _ | refine blk_drew ?_ | refine blk_alloc ?_ _)); refine blk_far ?_ NB135_138.out _; (with_reducible repeat (first | refine blk_drewN ?_ _ | refine blk_drew ?_ | refine blk_alloc ?_ _)); refine blk_far ?_ NB135_138.out _; (with_reducible repeat (first | refine blk_drewN ?_ _ | refine blk_drew ?_ | refine blk_alloc ?_ _)); exact BK135.out))⟩; have n6_ : Aside0 (w32.heap[gb136]? = some (.cells #[u137000] 25 (0, 0))) := ⟨(by rw [hw]; exact (by (with_reducible repeat (first | refine blk_drewN ?_ _ | refine blk_drew ?_ | refine blk_alloc ?_ _)); refine blk_far ?_ NB136_138.out _; (with_reducible repeat (first | refine blk_drewN ?_ _ | refine blk_drew ?_ | refine blk_alloc ?_ _)); refine blk_far ?_ NB136_138.out _; (with_reducible repeat (first | refine blk_drewN ?_ _ | refine blk_drew ?_ | refine blk_alloc ?_ _)); exact BK136.out))⟩; have n7_ : Aside0 (w32.heap[gb138]? = some (.cells #[.slice A137_0 ((rd_T60 l0_0 x4_1).f0).length c137_0, .slice A137_1 ((rd_T60 l0_0 x4_1).f1).length c137_1] 60 (0, 0))) := ⟨(by rw [hw]; exact (by (with_reducible repeat (first | refine blk_drewN ?_ _ | refine blk_drew ?_ | refine blk_alloc ?_ _)); refine blk_put (cs := #[.slice A137_0 ((rd_T60 l0_0 x4_1).f0).length c137_0, .slice none 0 0]) ?_ 1 _ rfl; (with_reducible repeat (first | refine blk_drewN ?_ _ | refine blk_drew ?_ | refine blk_alloc ?_ _)); refine blk_put (cs := #[.slice none 0 0, .slice none 0 0]) ?_ 0 _ rfl; (with_reducible repeat (first | refine blk_drewN ?_ _ | refine blk_drew ?_ | refine blk_alloc ?_ _)); exact BK138.out))⟩; have n8_ : Aside0 (Below w.heap.size w w32) := ⟨(by rw [hw]; exact (by repeat (first | (with_reducible first | exact HB.out | apply below_alloc | apply pw_below_drewN | apply below_drew1 | refine below_set ?_ GE134.out | refine below_set ?_ GE135.out | refine below_set ?_ GE136.out | refine below_set ?_ GE138.out) | exact HB.out)))⟩; clear hw; clear HO_135000; clear HO_137000; clear HL137_0; clear HL137_1; clear BK134; clear BK135; clear BK136; clear BK138; clear HB; have HO_135000 := n0_; have HO_137000 := n1_; have HL137_0 := n2_; have HL137_1 := n3_; have BK134 := n4_; have BK135 := n5_; have BK136 := n6_; have BK138 := n7_; have HB := n8_; clear n0_ n1_ n2_ n3_ n4_ n5_ n6_ n7_ n8_; have hcz33_0 : w32.cell? ⟨gb138, 0, none⟩ = some (.slice A137_0 ((rd_T60 l0_0 x4_1).f0).length c137_0) := (blk_cell BK138.out 0).trans rfl; have hcz33_1 : w32.cell? ⟨gb138, 1, none⟩ = some (.slice A137_1 ((rd_T60 l0_0 x4_1).f1).length c137_1) := (blk_cell BK138.out 1).trans rfl; have hfz33_0 := blk_frozen BK138.out 0; have hfz33_1 := blk_frozen BK138.out 1; have q34 : (8 : Int) ≤ ((((rd_T60 l0_0 x4_1).f0).length : Int) : Int) := of_decide_eq_true (by first | (with_reducible assumption) | assumption); obtain ⟨i034, hi034, _, hsz34, _⟩ := info_parts info9; have hroom34 : ((rd_T60 l0_0 x4_1).f0).length ≤ c137_0 := HC137_0.out; have hC34 : Kd.F Kd.string _ _ A137_0 ((rd_T60 l0_0 x4_1).f0).length ((rd_T60 l0_0 x4_1).f0) := (Kd.V_at (base := w.heap.size) HL137_0.out).2.2; have hcut34 := cut_to (P := Try.prog) 58 9 .i64 Try.underlying58 hi034 A137_0 ((rd_T60 l0_0 x4_1).f0).length c137_0 8 (by omega) q34 hroom34; have hr34 := Kd.F_take (m := 8) hC34 (by omega); have hy34 : y139.length = (8 : Int).toNat := (by rw [Ny139.out, List.length_take]; omega); rw [← Ny139.out] at hr34; rw [← hy34] at hcut34; have HO143 := Aside0.mk (show Kd.V Kd.string 9 _ w.heap.size _ (.slice A137_0 y139.length c137_0) y139 from Kd.V_mk (by omega) hr34); have HC143 := Aside0.mk (show y139.length ≤ c137_0 from by omega); clear hr34 hC34 hroom34 hi034 hsz34; have KY34 := Aside0.mk hy34; clear hy34; replace q34 := eq_true q34) | ((with_reducible refine gate_store (t := 58) (p := 30) rfl ?_); refine store_event (t := 58) (p := 30) (v := ?vo_w35) (w1 := (w32.setCell ⟨gb138, 0, none⟩ (.slice A137_0 y139.length c137_0))) ?hg ?ho ?hn ?hr ?_; (case ho => rfl); (case hg => rfl); (case hn => rfl); (case hr => first | (go_simp; done) | (go_simp; rfl)); intro w35 hw; have n0_ : Aside0 (Kd.V k60 60 w35 w.heap.size (fun k_ => (P0_0_ k_ ∨ w.heap.size ≤ k_) ∧ some k_ ≠ (u137000 : Value).ownBlock ∧ k_ ≠ gb134 ∧ k_ ≠ gb135 ∧ k_ ≠ gb136 ∧ k_ ≠ gb138) (.slice (some ad137) l0_0.length c0_0) l0_0) := ⟨(by rw [hw]; exact (by (with_reducible repeat (first | apply Kd.V_alloc | apply Kd.V_drewN | apply Kd.V_drew)); exact Kd.V_mono (Kd.V_far (p := ⟨gb138, 0, none⟩) (Kd.V_mono HO_135000.out (fun k_ hk => (⟨hk, hk.2.2.2.2.2⟩ : _ ∧ k_ ≠ gb138))) (fun _ hk => hk.2) (.slice A137_0 y139.length c137_0)) (fun _ hk => ⟨hk.1.1, ⟨hk.1.2.1, ⟨hk.1.2.2.1, ⟨hk.1.2.2.2.1, ⟨hk.1.2.2.2.2.1, hk.1.2.2.2.2.2⟩⟩⟩⟩⟩)))⟩; have n1_ : Aside0 (Kd.N k60 60 w35 w.heap.size (fun k_ => (P0_0_ k_ ∨ w.heap.size ≤ k_) ∧ k_ ≠ gb134 ∧ k_ ≠ gb135 ∧ k_ ≠ gb136 ∧ k_ ≠ gb138) u137000 x137000_1) := ⟨(by rw [hw]; exact (by (with_reducible repeat (first | apply Kd.N_alloc | apply Kd.N_drewN | apply Kd.N_drew)); exact Kd.N_mono (Kd.N_far (p := ⟨gb138, 0, none⟩) (Kd.N_mono HO_137000.out (fun k_ hk => (⟨hk, hk.2.2.2.2⟩ : _ ∧ k_ ≠ gb138))) (fun _ hk => hk.2) (.slice A137_0 y139.length c137_0)) (fun _ hk => ⟨hk.1.1, ⟨hk.1.2.1, ⟨hk.1.2.2.1, ⟨hk.1.2.2.2.1, hk.1.2.2.2.2⟩⟩⟩⟩)))⟩; have n2_ : Aside0 (Kd.V Kd.string 9 w35 w.heap.size (fun k_ => (P0_0_ k_ ∨ w.heap.size ≤ k_) ∧ some k_ ≠ (u137000 : Value).ownBlock ∧ k_ ≠ gb134 ∧ k_ ≠ gb135 ∧ k_ ≠ gb136 ∧ k_ ≠ gb138) (.slice A137_0 ((rd_T60 l0_0 x4_1).f0).length c137_0) ((rd_T60 l0_0 x4_1).f0)) := ⟨(by rw [hw]; exact (by (with_reducible repeat (first | apply Kd.V_alloc | apply Kd.V_drewN | apply Kd.V_drew)); exact Kd.V_mono (Kd.V_far (p := ⟨gb138, 0, none⟩) (Kd.V_mono HL137_0.out (fun k_ hk => (⟨hk, hk.2.2.2.2.2⟩ : _ ∧ k_ ≠ gb138))) (fun _ hk => hk.2) (.slice A137_0 y139.length c137_0)) (fun _ hk => ⟨hk.1.1, ⟨hk.1.2.1, ⟨hk.1.2.2.1, ⟨hk.1.2.2.2.1, ⟨hk.1.2.2.2.2.1, hk.1.2.2.2.2.2⟩⟩⟩⟩⟩)))⟩; have n3_ : Aside0 (Kd.V Kd.string 9 w35 w.heap.size (fun k_ => (P0_0_ k_ ∨ w.heap.size ≤ k_) ∧ some k_ ≠ (u137000 : Value).ownBlock ∧ k_ ≠ gb134 ∧ k_ ≠ gb135 ∧ k_ ≠ gb136 ∧ k_ ≠ gb138) (.slice A137_1 ((rd_T60 l0_0 x4_1).f1).length c137_1) ((rd_T60 l0_0 x4_1).f1)) := ⟨(by rw [hw]; exact (by (with_reducible repeat (first | apply Kd.V_alloc | apply Kd.V_drewN | apply Kd.V_drew)); exact Kd.V_mono (Kd.V_far (p := ⟨gb138, 0, none⟩) (Kd.V_mono HL137_1.out (fun k_ hk => (⟨hk, hk.2.2.2.2.2⟩ : _ ∧ k_ ≠ gb138))) (fun _ hk => hk.2) (.slice A137_0 y139.length c137_0)) (fun _ hk => ⟨hk.1.1, ⟨hk.1.2.1, ⟨hk.1.2.2.1, ⟨hk.1.2.2.2.1, ⟨hk.1.2.2.2.2.1, hk.1.2.2.2.2.2⟩⟩⟩⟩⟩)))⟩; have n4_ : Aside0 (Kd.V Kd.string 9 w35 w.heap.size (fun k_ => (P0_0_ k_ ∨ w.heap.size ≤ k_) ∧ some k_ ≠ (u137000 : Value).ownBlock ∧ k_ ≠ gb134 ∧ k_ ≠ gb135 ∧ k_ ≠ gb136 ∧ k_ ≠ gb138) (.slice A137_0 y139.length c137_0) y139) := ⟨(by rw [hw]; exact (by (with_reducible repeat (first | apply Kd.V_alloc | apply Kd.V_drewN | apply Kd.V_drew)); exact Kd.V_mono (Kd.V_far (p := ⟨gb138, 0, none⟩) (Kd.V_mono HO143.out (fun k_ hk => (⟨hk, hk.2.2.2.2.2⟩ : _ ∧ k_ ≠ gb138))) (fun _ hk => hk.2) (.slice A137_0 y139.length c137_0)) (fun _ hk => ⟨hk.1.1, ⟨hk.1.2.1, ⟨hk.1.2.2.1, ⟨hk.1.2.2.2.1, ⟨hk.1.2.2.2.2.1, hk.1.2.2.2.2.2⟩⟩⟩⟩⟩)))⟩; have n5_ : Aside0 (w35.heap[gb134]? = some (.cells #[.slice (some ad137) l0_0.length c0_0] 25 (0, 0))) := ⟨(by rw [hw]; exact (by (with_reducible repeat (first | refine blk_drewN ?_ _ | refine blk_drew ?_ | refine blk_alloc ?_ _)); refine blk_far ?_ NB134_138.out _; (with_reducible repeat (first | refine blk_drewN ?_ _ | refine blk_drew ?_ | refine blk_alloc ?_ _)); exact BK134.out))⟩; have n6_ : Aside0 (w35.heap[gb135]? = some (.cells #[.slice none 0 0] 25 (0, 0))) := ⟨(by rw [hw]; exact (by (with_reducible repeat (first | refine blk_drewN ?_ _ | refine blk_drew ?_ | refine blk_alloc ?_ _)); refine blk_far ?_ NB135_138.out _; (with_reducible repeat (first | refine blk_drewN ?_ _ | refine blk_drew ?_ | refine blk_alloc ?_ _)); exact BK135.out))⟩; have n7_ : Aside0 (w35.heap[gb136]? = some (.cells #[u137000] 25 (0, 0))) := ⟨(by rw [hw]; exact (by (with_reducible repeat (first | refine blk_drewN ?_ _ | refine blk_drew ?_ | refine blk_alloc ?_ _)); refine blk_far ?_ NB136_138.out _; (with_reducible repeat (first | refine blk_drewN ?_ _ | refine blk_drew ?_ | refine blk_alloc ?_ _)); exact BK136.out))⟩; have n8_ : Aside0 (w35.heap[gb138]? = some (.cells #[.slice A137_0 y139.length c137_0, .slice A137_1 ((rd_T60 l0_0 x4_1).f1).length c137_1] 60 (0, 0))) := ⟨(by rw [hw]; exact (by (with_reducible repeat (first | refine blk_drewN ?_ _ | refine blk_drew ?_ | refine blk_alloc ?_ _)); refine blk_put (cs := #[.slice A137_0 ((rd_T60 l0_0 x4_1).f0).length c137_0, .slice A137_1 ((rd_T60 l0_0 x4_1).f1).length c137_1]) ?_ 0 _ rfl; (with_reducible repeat (first | refine blk_drewN ?_ _ | refine blk_drew ?_ | refine blk_alloc ?_ _)); exact BK138.out))⟩; have n9_ : Aside0 (Below w.heap.size w w35) := ⟨(by rw [hw]; exact (by repeat (first | (with_reducible first | exact HB.out | apply below_alloc | apply pw_below_drewN | apply below_drew1 | refine below_set ?_ GE134.out | refine below_set ?_ GE135.out | refine below_set ?_ GE136.out | refine below_set ?_ GE138.out) | exact HB.out)))⟩; clear hw; clear HO_135000; clear HO_137000; clear HL137_0; clear HL137_1; clear HO143; clear BK134; clear BK135; clear BK136; clear BK138; clear HB; have HO_135000 := n0_; have HO_137000 := n1_; have HL137_0 := n2_; have HL137_1 := n3_; have HO143 := n4_; have BK134 := n5_; have BK135 := n6_; have BK136 := n7_; have BK138 := n8_; have HB := n9_; clear n0_ n1_ n2_ n3_ n4_ n5_ n6_ n7_ n8_ n9_; have hcz36_0 : w35.cell? ⟨gb138, 0, none⟩ = some (.slice A137_0 y139.length c137_0) := (blk_cell BK138.out 0).trans rfl; have hcz36_1 : w35.cell? ⟨gb138, 1, none⟩ = some (.slice A137_1 ((rd_T60 l0_0 x4_1).f1).length c137_1) := (blk_cell BK138.out 1).trans rfl; have hfz36_0 := blk_frozen BK138.out 0; have hfz36_1 := blk_frozen BK138.out 1; have q37 : (8 : Int) ≤ ((((rd_T60 l0_0 x4_1).f1).length : Int) : Int) := of_decide_eq_true (by first | (with_reducible assumption) | assumption); obtain ⟨i037, hi037, _, hsz37, _⟩ := info_parts info9; have hroom37 : ((rd_T60 l0_0 x4_1).f1).length ≤ c137_1 := HC137_1.out; have hC37 : Kd.F Kd.string _ _ A137_1 ((rd_T60 l0_0 x4_1).f1).length ((rd_T60 l0_0 x4_1).f1) := (Kd.V_at (base := w.heap.size) HL137_1.out).2.2; have hcut37 := cut_to (P := Try.prog) 58 9 .i64 Try.underlying58 hi037 A137_1 ((rd_T60 l0_0 x4_1).f1).length c137_1 8 (by omega) q37 hroom37; have hr37 := Kd.F_take (m := 8) hC37 (by omega); have hy37 : y144.length = (8 : Int).toNat := (by rw [Ny144.out, List.length_take]; omega); rw [← Ny144.out] at hr37; rw [← hy37] at hcut37; have HO148 := Aside0.mk (show Kd.V Kd.string 9 _ w.heap.size _ (.slice A137_1 y144.length c137_1) y144 from Kd.V_mk (by omega) hr37); have HC148 := Aside0.mk (show y144.length ≤ c137_1 from by omega); clear hr37 hC37 hroom37 hi037 hsz37; have KY37 := Aside0.mk hy37; clear hy37; replace q37 := eq_true q37) | ((with_reducible refine gate_store (t := 58) (p := 38) rfl ?_); refine store_event (t := 58) (p := 38) (v := ?vo_w38) (w1 := (w35.setCell ⟨gb138, 1, none⟩ (.slice A137_1 y144.length c137_1))) ?hg ?ho ?hn ?hr ?_; (case ho => rfl); (case hg => rfl); (case hn => rfl); (case hr => first | (go_simp; done) | (go_simp; rfl)); intro w38 hw; have n0_ : Aside0 (Kd.V k60 60 w38 w.heap.size (fun k_ => (P0_0_ k_ ∨ w.heap.size ≤ k_) ∧ some k_ ≠ (u137000 : Value).ownBlock ∧ k_ ≠ gb134 ∧ k_ ≠ gb135 ∧ k_ ≠ gb136 ∧ k_ ≠ gb138) (.slice (some ad137) l0_0.length c0_0) l0_0) := ⟨(by rw [hw]; exact (by (with_reducible repeat (first | apply Kd.V_alloc | apply Kd.V_drewN | apply Kd.V_drew)); exact Kd.V_mono (Kd.V_far (p := ⟨gb138, 1, none⟩) (Kd.V_mono HO_135000.out (fun k_ hk => (⟨hk, hk.2.2.2.2.2⟩ : _ ∧ k_ ≠ gb138))) (fun _ hk => hk.2) (.slice A137_1 y144.length c137_1)) (fun _ hk => ⟨hk.1.1, ⟨hk.1.2.1, ⟨hk.1.2.2.1, ⟨hk.1.2.2.2.1, ⟨hk.1.2.2.2.2.1, hk.1.2.2.2.2.2⟩⟩⟩⟩⟩)))⟩; have n1_ : Aside0 (Kd.N k60 60 w38 w.heap.size (fun k_ => (P0_0_ k_ ∨ w.heap.size ≤ k_) ∧ k_ ≠ gb134 ∧ k_ ≠ gb135 ∧ k_ ≠ gb136 ∧ k_ ≠ gb138) u137000 x137000_1) := ⟨(by rw [hw]; exact (by (with_reducible repeat (first | apply Kd.N_alloc | apply Kd.N_drewN | apply Kd.N_drew)); exact Kd.N_mono (Kd.N_far (p := ⟨gb138, 1, none⟩) (Kd.N_mono HO_137000.out (fun k_ hk => (⟨hk, hk.2.2.2.2⟩ : _ ∧ k_ ≠ gb138))) (fun _ hk => hk.2) (.slice A137_1 y144.length c137_1)) (fun _ hk => ⟨hk.1.1, ⟨hk.1.2.1, ⟨hk.1.2.2.1, ⟨hk.1.2.2.2.1, hk.1.2.2.2.2⟩⟩⟩⟩)))⟩; have n2_ : Aside0 (Kd.V Kd.string 9 w38 w.heap.size (fun k_ => (P0_0_ k_ ∨ w.heap.size ≤ k_) ∧ some k_ ≠ (u137000 : Value).ownBlock ∧ k_ ≠ gb134 ∧ k_ ≠ gb135 ∧ k_ ≠ gb136 ∧ k_ ≠ gb138) (.slice A137_0 ((rd_T60 l0_0 x4_1).f0).length c137_0) ((rd_T60 l0_0 x4_1).f0)) := ⟨(by rw [hw]; exact (by (with_reducible repeat (first | apply Kd.V_alloc | apply Kd.V_drewN | apply Kd.V_drew)); exact Kd.V_mono (Kd.V_far (p := ⟨gb138, 1, none⟩) (Kd.V_mono HL137_0.out (fun k_ hk => (⟨hk, hk.2.2.2.2.2⟩ : _ ∧ k_ ≠ gb138))) (fun _ hk => hk.2) (.slice A137_1 y144.length c137_1)) (fun _ hk => ⟨hk.1.1, ⟨hk.1.2.1, ⟨hk.1.2.2.1, ⟨hk.1.2.2.2.1, ⟨hk.1.2.2.2.2.1, hk.1.2.2.2.2.2⟩⟩⟩⟩⟩)))⟩; have n3_ : Aside0 (Kd.V Kd.string 9 w38 w.heap.size (fun k_ => (P0_0_ k_ ∨ w.heap.size ≤ k_) ∧ some k_ ≠ (u137000 : Value).ownBlock ∧ k_ ≠ gb134 ∧ k_ ≠ gb135 ∧ k_ ≠ gb136 ∧ k_ ≠ gb138) (.slice A137_1 ((rd_T60 l0_0 x4_1).f1).length c137_1) ((rd_T60 l0_0 x4_1).f1)) := ⟨(by rw [hw]; exact (by (with_reducible repeat (first | apply Kd.V_alloc | apply Kd.V_drewN | apply Kd.V_drew)); exact Kd.V_mono (Kd.V_far (p := ⟨gb138, 1, none⟩) (Kd.V_mono HL137_1.out (fun k_ hk => (⟨hk, hk.2.2.2.2.2⟩ : _ ∧ k_ ≠ gb138))) (fun _ hk => hk.2) (.slice A137_1 y144.length c137_1)) (fun _ hk => ⟨hk.1.1, ⟨hk.1.2.1, ⟨hk.1.2.2.1, ⟨hk.1.2.2.2.1, ⟨hk.1.2.2.2.2.1, hk.1.2.2.2.2.2⟩⟩⟩⟩⟩)))⟩; have n4_ : Aside0 (Kd.V Kd.string 9 w38 w.heap.size (fun k_ => (P0_0_ k_ ∨ w.heap.size ≤ k_) ∧ some k_ ≠ (u137000 : Value).ownBlock ∧ k_ ≠ gb134 ∧ k_ ≠ gb135 ∧ k_ ≠ gb136 ∧ k_ ≠ gb138) (.slice A137_0 y139.length c137_0) y139) := ⟨(by rw [hw]; exact (by (with_reducible repeat (first | apply Kd.V_alloc | apply Kd.V_drewN | apply Kd.V_drew)); exact Kd.V_mono (Kd.V_far (p := ⟨gb138, 1, none⟩) (Kd.V_mono HO143.out (fun k_ hk => (⟨hk, hk.2.2.2.2.2⟩ : _ ∧ k_ ≠ gb138))) (fun _ hk => hk.2) (.slice A137_1 y144.length c137_1)) (fun _ hk => ⟨hk.1.1, ⟨hk.1.2.1, ⟨hk.1.2.2.1, ⟨hk.1.2.2.2.1, ⟨hk.1.2.2.2.2.1, hk.1.2.2.2.2.2⟩⟩⟩⟩⟩)))⟩; have n5_ : Aside0 (Kd.V Kd.string 9 w38 w.heap.size (fun k_ => (P0_0_ k_ ∨ w.heap.size ≤ k_) ∧ some k_ ≠ (u137000 : Value).ownBlock ∧ k_ ≠ gb134 ∧ k_ ≠ gb135 ∧ k_ ≠ gb136 ∧ k_ ≠ gb138) (.slice A137_1 y144.length c137_1) y144) := ⟨(by rw [hw]; exact (by (with_reducible repeat (first | apply Kd.V_alloc | apply Kd.V_drewN | apply Kd.V_drew)); exact Kd.V_mono (Kd.V_far (p := ⟨gb138, 1, none⟩) (Kd.V_mono HO148.out (fun k_ hk => (⟨hk, hk.2.2.2.2.2⟩ : _ ∧ k_ ≠ gb138))) (fun _ hk => hk.2) (.slice A137_1 y144.length c137_1)) (fun _ hk => ⟨hk.1.1, ⟨hk.1.2.1, ⟨hk.1.2.2.1, ⟨hk.1.2.2.2.1, ⟨hk.1.2.2.2.2.1, hk.1.2.2.2.2.2⟩⟩⟩⟩⟩)))⟩; have n6_ : Aside0 (w38.heap[gb134]? = some (.cells #[.slice (some ad137) l0_0.length c0_0] 25 (0, 0))) := ⟨(by rw [hw]; exact (by (with_reducible repeat (first | refine blk_drewN ?_ _ | refine blk_drew ?_ | refine blk_alloc ?_ _)); refine blk_far ?_ NB134_138.out _; (with_reducible repeat (first | refine blk_drewN ?_ _ | refine blk_drew ?_ | refine blk_alloc ?_ _)); exact BK134.out))⟩; have n7_ : Aside0 (w38.heap[gb135]? = some (.cells #[.slice none 0 0] 25 (0, 0))) := ⟨(by rw [hw]; exact (by (with_reducible repeat (first | refine blk_drewN ?_ _ | refine blk_drew ?_ | refine blk_alloc ?_ _)); refine blk_far ?_ NB135_138.out _; (with_reducible repeat (first | refine blk_drewN ?_ _ | refine blk_drew ?_ | refine blk_alloc ?_ _)); exact BK135.out))⟩; have n8_ : Aside0 (w38.heap[gb136]? = some (.cells #[u137000] 25 (0, 0))) := ⟨(by rw [hw]; exact (by (with_reducible repeat (first | refine blk_drewN ?_ _ | refine blk_drew ?_ | refine blk_alloc ?_ _)); refine blk_far ?_ NB136_138.out _; (with_reducible repeat (first | refine blk_drewN ?_ _ | refine blk_drew ?_ | refine blk_alloc ?_ _)); exact BK136.out))⟩; have n9_ : Aside0 (w38.heap[gb138]? = some (.cells #[.slice A137_0 y139.length c137_0, .slice A137_1 y144.length c137_1] 60 (0, 0))) := ⟨(by rw [hw]; exact (by (with_reducible repeat (first | refine blk_drewN ?_ _ | refine blk_drew ?_ | refine blk_alloc ?_ _)); refine blk_put (cs := #[.slice A137_0 y139.length c137_0, .slice A137_1 ((rd_T60 l0_0 x4_1).f1).length c137_1]) ?_ 1 _ rfl; (with_reducible repeat (first | refine blk_drewN ?_ _ | refine blk_drew ?_ | refine blk_alloc ?_ _)); exact BK138.out))⟩; have n10_ : Aside0 (Below w.heap.size w w38) := ⟨(by rw [hw]; exact (by repeat (first | (with_reducible first | exact HB.out | apply below_alloc | apply pw_below_drewN | apply below_drew1 | refine below_set ?_ GE134.out | refine below_set ?_ GE135.out | refine below_set ?_ GE136.out | refine below_set ?_ GE138.out) | exact HB.out)))⟩; clear hw; clear HO_135000; clear HO_137000; clear HL137_0; clear HL137_1; clear HO143; clear HO148; clear BK134; clear BK135; clear BK136; clear BK138; clear HB; have HO_135000 := n0_; have HO_137000 := n1_; have HL137_0 := n2_; have HL137_1 := n3_; have HO143 := n4_; have HO148 := n5_; have BK134 := n6_; have BK135 := n7_; have BK136 := n8_; have BK138 := n9_; have HB := n10_; clear n0_ n1_ n2_ n3_ n4_ n5_ n6_ n7_ n8_ n9_ n10_; have hnb39 := NB136_135.out; have hnc39 := NB135_136.out; have hcz40_0 : w38.cell? ⟨gb136, 0, none⟩ = some (u137000) := (blk_cell BK136.out 0).trans rfl; have hfz40_0 := blk_frozen BK136.out 0; have hcz41_0 : w38.cell? ⟨gb138, 0, none⟩ = some (.slice A137_0 y139.length c137_0) := (blk_cell BK138.out 0).trans rfl; have hcz41_1 : w38.cell? ⟨gb138, 1, none⟩ = some (.slice A137_1 y144.length c137_1) := (blk_cell BK138.out 1).trans rfl; have hfz41_0 := blk_frozen BK138.out 0; have hfz41_1 := blk_frozen BK138.out 1) | ((with_reducible refine gate_builtin (b := .append) (xs := #[.tmp 40, .tmp 42]) rfl ?_); at_builtin; refine Kd.N_append k60 (w0 := w) w.heap.size rfl (.tmp 40) (.tmp 42) 23 60 (.agg #[(.slice none 0 0), (.slice none 0 0)]) 48 rfl Try.underlying23 info60 rfl (by decide) (by omega) u137000 x137000_1 (⟨y139, y144⟩ : S60) [.slice A137_0 y139.length c137_0, .slice A137_1 y144.length c137_1] (fun k_ => (P0_0_ k_ ∨ w.heap.size ≤ k_) ∧ k_ ≠ gb134 ∧ k_ ≠ gb135 ∧ k_ ≠ gb136 ∧ k_ ≠ gb138) (fun k_ => ((fun k_ => (P0_0_ k_ ∨ w.heap.size ≤ k_) ∧ k_ ≠ gb134 ∧ k_ ≠ gb135 ∧ k_ ≠ gb136 ∧ k_ ≠ gb138)) k_ ∧ some k_ ≠ (u137000 : Value).ownBlock) rfl rfl ?aP (fun _ hk => hk) ?aF ?aO ?aB ?aS ?aL ?_; (case aP => exact (k60_mkF _ _ (⟨y139, y144⟩ : S60) (Kd.V_reads' (Kd.V_mono (ok' := (fun k_ => ((fun k_ => (P0_0_ k_ ∨ w.heap.size ≤ k_) ∧ k_ ≠ gb134 ∧ k_ ≠ gb135 ∧ k_ ≠ gb136 ∧ k_ ≠ gb138)) k_ ∧ some k_ ≠ (u137000 : Value).ownBlock)) (HO143.out) (fun k_ hk => ⟨⟨hk.1, ⟨hk.2.2.1, ⟨hk.2.2.2.1, ⟨hk.2.2.2.2.1, hk.2.2.2.2.2⟩⟩⟩⟩, hk.2.1⟩))).2.1 (Kd.V_F (Kd.V_mono (ok' := (fun k_ => ((fun k_ => (P0_0_ k_ ∨ w.heap.size ≤ k_) ∧ k_ ≠ gb134 ∧ k_ ≠ gb135 ∧ k_ ≠ gb136 ∧ k_ ≠ gb138)) k_ ∧ some k_ ≠ (u137000 : Value).ownBlock)) (HO143.out) (fun k_ hk => ⟨⟨hk.1, ⟨hk.2.2.1, ⟨hk.2.2.2.1, ⟨hk.2.2.2.2.1, hk.2.2.2.2.2⟩⟩⟩⟩, hk.2.1⟩))) (Kd.V_reads' (Kd.V_mono (ok' := (fun k_ => ((fun k_ => (P0_0_ k_ ∨ w.heap.size ≤ k_) ∧ k_ ≠ gb134 ∧ k_ ≠ gb135 ∧ k_ ≠ gb136 ∧ k_ ≠ gb138)) k_ ∧ some k_ ≠ (u137000 : Value).ownBlock)) (HO148.out) (fun k_ hk => ⟨⟨hk.1, ⟨hk.2.2.1, ⟨hk.2.2.2.1, ⟨hk.2.2.2.2.1, hk.2.2.2.2.2⟩⟩⟩⟩, hk.2.1⟩))).2.1 (Kd.V_F (Kd.V_mono (ok' := (fun k_ => ((fun k_ => (P0_0_ k_ ∨ w.heap.size ≤ k_) ∧ k_ ≠ gb134 ∧ k_ ≠ gb135 ∧ k_ ≠ gb136 ∧ k_ ≠ gb138)) k_ ∧ some k_ ≠ (u137000 : Value).ownBlock)) (HO148.out) (fun k_ hk => ⟨⟨hk.1, ⟨hk.2.2.1, ⟨hk.2.2.2.1, ⟨hk.2.2.2.2.1, hk.2.2.2.2.2⟩⟩⟩⟩, hk.2.1⟩))))); (case aB => exact (by repeat (first | (with_reducible first | exact HB.out | apply below_alloc | apply pw_below_drewN | apply below_drew1 | refine below_set ?_ GE134.out | refine below_set ?_ GE135.out | refine below_set ?_ GE136.out | refine below_set ?_ GE138.out) | exact HB.out))); (case aF => exact (fun k_ hk => ⟨(.inr (Nat.le_trans (below_size (by repeat (first | (with_reducible first | exact HB.out | apply below_alloc | apply pw_below_drewN | apply below_drew1 | refine below_set ?_ GE134.out | refine below_set ?_ GE135.out | refine below_set ?_ GE136.out | refine below_set ?_ GE138.out) | exact HB.out))) hk)), Kd.freshB (g := gb134) (o := .cells #[.slice (some ad137) l0_0.length c0_0] 25 (0, 0)) (by (with_reducible repeat (first | refine blk_drewN ?_ _ | refine blk_drew ?_ | refine blk_alloc ?_ _)); exact BK134.out) k_ hk, Kd.freshB (g := gb135) (o := .cells #[.slice none 0 0] 25 (0, 0)) (by (with_reducible repeat (first | refine blk_drewN ?_ _ | refine blk_drew ?_ | refine blk_alloc ?_ _)); exact BK135.out) k_ hk, Kd.freshB (g := gb136) (o := .cells #[u137000] 25 (0, 0)) (by (with_reducible repeat (first | refine blk_drewN ?_ _ | refine blk_drew ?_ | refine blk_alloc ?_ _)); exact BK136.out) k_ hk, Kd.freshB (g := gb138) (o := .cells #[.slice A137_0 y139.length c137_0, .slice A137_1 y144.length c137_1] 60 (0, 0)) (by (with_reducible repeat (first | refine blk_drewN ?_ _ | refine blk_drew ?_ | refine blk_alloc ?_ _)); exact BK138.out) k_ hk⟩)); (case aO => exact (by (with_reducible repeat (first | apply Kd.N_alloc | apply Kd.N_drewN | apply Kd.N_drew)); exact HO_137000.out)); (case aS => exact (below_size (by repeat (first | (with_reducible first | exact HB.out | apply below_alloc | apply pw_below_drewN | apply below_drew1 | refine below_set ?_ GE134.out | refine below_set ?_ GE135.out | refine below_set ?_ GE136.out | refine below_set ?_ GE138.out) | exact HB.out)))); (case aL => have := LMc23.out; omega); intro v150 w42 ho hb hg hat; rw [← Ny149.out] at ho; have n0_ := Aside0.mk (Kd.V_afterv (ok := (fun k_ => (P0_0_ k_ ∨ w.heap.size ≤ k_) ∧ k_ ≠ gb134 ∧ k_ ≠ gb135 ∧ k_ ≠ gb136 ∧ k_ ≠ gb138)) (by (with_reducible repeat (first | apply Kd.V_alloc | apply Kd.V_drewN | apply Kd.V_drew)); exact Kd.V_mono HO_135000.out (fun _ hk => ⟨⟨hk.1, ⟨hk.2.2.1, ⟨hk.2.2.2.1, ⟨hk.2.2.2.2.1, hk.2.2.2.2.2⟩⟩⟩⟩, hk.2.1⟩)) hg hat); have n1_ := Aside0.mk (blk_grown (g := gb134) (o := .cells #[.slice (some ad137) l0_0.length c0_0] 25 (0, 0)) (by (with_reducible repeat (first | refine blk_drewN ?_ _ | refine blk_drew ?_ | refine blk_alloc ?_ _)); exact BK134.out) hg (Kd.N_ne HO_137000.out BK134.out (by decide))); have n2_ := Aside0.mk (blk_grown (g := gb135) (o := .cells #[.slice none 0 0] 25 (0, 0)) (by (with_reducible repeat (first | refine blk_drewN ?_ _ | refine blk_drew ?_ | refine blk_alloc ?_ _)); exact BK135.out) hg (Kd.N_ne HO_137000.out BK135.out (by decide))); have n3_ := Aside0.mk (blk_grown (g := gb136) (o := .cells #[u137000] 25 (0, 0)) (by (with_reducible repeat (first | refine blk_drewN ?_ _ | refine blk_drew ?_ | refine blk_alloc ?_ _)); exact BK136.out) hg (Kd.N_ne HO_137000.out BK136.out (by decide))); have n4_ := Aside0.mk (Kd.V_afterv (ok := (fun k_ => (P0_0_ k_ ∨ w.heap.size ≤ k_) ∧ k_ ≠ gb134 ∧ k_ ≠ gb135 ∧ k_ ≠ gb136 ∧ k_ ≠ gb138)) (by (with_reducible repeat (first | apply Kd.V_alloc | apply Kd.V_drewN | apply Kd.V_drew)); exact Kd.V_mono HL137_0.out (fun _ hk => ⟨⟨hk.1, ⟨hk.2.2.1, ⟨hk.2.2.2.1, ⟨hk.2.2.2.2.1, hk.2.2.2.2.2⟩⟩⟩⟩, hk.2.1⟩)) hg hat); have n5_ := Aside0.mk (Kd.V_afterv (ok := (fun k_ => (P0_0_ k_ ∨ w.heap.size ≤ k_) ∧ k_ ≠ gb134 ∧ k_ ≠ gb135 ∧ k_ ≠ gb136 ∧ k_ ≠ gb138)) (by (with_reducible repeat (first | apply Kd.V_alloc | apply Kd.V_drewN | apply Kd.V_drew)); exact Kd.V_mono HL137_1.out (fun _ hk => ⟨⟨hk.1, ⟨hk.2.2.1, ⟨hk.2.2.2.1, ⟨hk.2.2.2.2.1, hk.2.2.2.2.2⟩⟩⟩⟩, hk.2.1⟩)) hg hat); have n6_ := Aside0.mk (blk_grown (g := gb138) (o := .cells #[.slice A137_0 y139.length c137_0, .slice A137_1 y144.length c137_1] 60 (0, 0)) (by (with_reducible repeat (first | refine blk_drewN ?_ _ | refine blk_drew ?_ | refine blk_alloc ?_ _)); exact BK138.out) hg (Kd.N_away HO_137000.out (fun _ hk => hk.2.2.2.2))); have n7_ := Aside0.mk (Kd.V_afterv (ok := (fun k_ => (P0_0_ k_ ∨ w.heap.size ≤ k_) ∧ k_ ≠ gb134 ∧ k_ ≠ gb135 ∧ k_ ≠ gb136 ∧ k_ ≠ gb138)) (by (with_reducible repeat (first | apply Kd.V_alloc | apply Kd.V_drewN | apply Kd.V_drew)); exact Kd.V_mono HO143.out (fun _ hk => ⟨⟨hk.1, ⟨hk.2.2.1, ⟨hk.2.2.2.1, ⟨hk.2.2.2.2.1, hk.2.2.2.2.2⟩⟩⟩⟩, hk.2.1⟩)) hg hat); have n8_ := Aside0.mk (Kd.V_afterv (ok := (fun k_ => (P0_0_ k_ ∨ w.heap.size ≤ k_) ∧ k_ ≠ gb134 ∧ k_ ≠ gb135 ∧ k_ ≠ gb136 ∧ k_ ≠ gb138)) (by (with_reducible repeat (first | apply Kd.V_alloc | apply Kd.V_drewN | apply Kd.V_drew)); exact Kd.V_mono HO148.out (fun _ hk => ⟨⟨hk.1, ⟨hk.2.2.1, ⟨hk.2.2.2.1, ⟨hk.2.2.2.2.1, hk.2.2.2.2.2⟩⟩⟩⟩, hk.2.1⟩)) hg hat); have n9_ := Aside0.mk (hb); have n10_ := Aside0.mk (ho); clear HO_135000; clear BK134; clear BK135; clear BK136; clear HL137_0; clear HL137_1; clear BK138; clear HO143; clear HO148; clear HB; clear HO_137000; have HO_135000 := n0_; have BK134 := n1_; have BK135 := n2_; have BK136 := n3_; have HL137_0 := n4_; have HL137_1 := n5_; have BK138 := n6_; have HO143 := n7_; have HO148 := n8_; have HB := n9_; have HO151 := n10_; clear n0_ n1_ n2_ n3_ n4_ n5_ n6_ n7_ n8_ n9_ n10_; clear ho hb hg hat; obtain ⟨Ao43, co43, eo43⟩ := Kd.N_slice HO151.out; subst eo43; have hcz44_0 : w42.cell? ⟨gb136, 0, none⟩ = some (u137000) := (blk_cell BK136.out 0).trans rfl; have hfz44_0 := blk_frozen BK136.out 0))
                          go_roundg kj7
                          case measure => have := HK1.out; have := HJ7.out; omega
                          case rel => exact ⟨(wrap64 (x4_1 + 1)), (y149), (.slice Ao43 y149.length co43), (by first | rfl | (simp; done) | (simp [*]; done)), H', ⟨by have := HK1.out; have := HJ7.out; omega⟩, ⟨by (with_reducible repeat (first | apply Kd.V_alloc | apply Kd.V_drewN | apply Kd.V_drew)); exact Kd.V_mono (Kd.V_far (p := ⟨gb136, 0, none⟩) (Kd.V_mono HO_135000.out (fun k_ hk => (⟨hk, hk.1.2.2.2.1⟩ : _ ∧ k_ ≠ gb136))) (fun _ hk => hk.2) (.slice Ao43 y149.length co43)) (fun _ hk => ⟨hk.1.1.1, ⟨hk.1.2, ⟨hk.1.1.2.1, ⟨hk.1.1.2.2.1, hk.1.1.2.2.2.1⟩⟩⟩⟩)⟩, ⟨by (with_reducible repeat (first | apply Kd.N_alloc | apply Kd.N_drewN | apply Kd.N_drew)); exact Kd.N_mono (Kd.N_far (p := ⟨gb136, 0, none⟩) (Kd.N_mono HO151.out (fun k_ hk => (⟨hk, hk.2.2.2.1⟩ : _ ∧ k_ ≠ gb136))) (fun _ hk => hk.2) (.slice Ao43 y149.length co43)) (fun _ hk => ⟨hk.1.1, ⟨hk.1.2.1, ⟨hk.1.2.2.1, hk.1.2.2.2.1⟩⟩⟩)⟩, ⟨by (with_reducible repeat (first | refine blk_drewN ?_ _ | refine blk_drew ?_ | refine blk_alloc ?_ _)); refine blk_far ?_ NB134_136.out _; (with_reducible repeat (first | refine blk_drewN ?_ _ | refine blk_drew ?_ | refine blk_alloc ?_ _)); exact BK134.out⟩, ⟨by (with_reducible repeat (first | refine blk_drewN ?_ _ | refine blk_drew ?_ | refine blk_alloc ?_ _)); refine blk_far ?_ NB135_136.out _; (with_reducible repeat (first | refine blk_drewN ?_ _ | refine blk_drew ?_ | refine blk_alloc ?_ _)); exact BK135.out⟩, ⟨by (with_reducible repeat (first | refine blk_drewN ?_ _ | refine blk_drew ?_ | refine blk_alloc ?_ _)); refine blk_put (cs := #[u137000]) ?_ 0 _ rfl; (with_reducible repeat (first | refine blk_drewN ?_ _ | refine blk_drew ?_ | refine blk_alloc ?_ _)); exact BK136.out⟩, ⟨by repeat (first | (with_reducible first | exact HB.out | apply below_alloc | apply pw_below_drewN | apply below_drew1 | refine below_set ?_ GE134.out | refine below_set ?_ GE135.out | refine below_set ?_ GE136.out | refine below_set ?_ GE138.out) | exact HB.out)⟩⟩
                        · rw [if_neg c23] at H
                          exact absurd H (by simp)
                      · rw [if_neg c22] at H
                        exact absurd H (by simp)
                    · rw [if_neg c21] at H
                      have c21b0 : decide (8 < (((rd_T60 l0_0 x4_1).f1).length : Int)) = false := decide_eq_false c21
                      have c21b1 : decide (8 < ((rd_T60 l0_0 x4_1).f1).length) = false := decide_eq_false (by omega)
                      clear c21
                      by_cases c45 : x137000_1.length < 2932031007402
                      · rw [if_pos c45] at H
                        have LMc45 := Aside0.mk c45
                        clear c45
                        obtain ⟨y152, hy152⟩ : ∃ y_ : List (S60), y_ = (x137000_1 ++ [(⟨y139, (rd_T60 l0_0 x4_1).f1⟩ : S60)]) := ⟨_, rfl⟩
                        replace H : (registrarlaw07_few.l0 kj7 (wrap64 (x4_1 + 1)) l0_0 y152) = some r := by first | (rw [hy152]; with_reducible exact H) | (have H2_ := (Option.bind_some _ _).symm.trans H; rw [hy152]; with_reducible exact H2_) | (have H2_ := (Option.bind_some _ _).symm.trans H; with_reducible exact H2_) | with_reducible exact H | (rw [hy152]; exact H) | exact H
                        have Ny152 := Aside0.mk hy152
                        clear hy152
                        have H' := Aside0.mk H
                        clear H
                        have hnb46 := NB134_135.out
                        have hnc46 := NB135_134.out
                        have hnb47 := NB134_136.out
                        have hnc47 := NB136_134.out
                        have hcz48_0 : wc.cell? ⟨gb134, 0, none⟩ = some (.slice A0_0 l0_0.length c0_0) := (blk_cell BK134.out 0).trans rfl
                        have hfz48_0 := blk_frozen BK134.out 0
                        have p137 : 0 ≤ (x4_1 : Int) := of_decide_eq_true (by first | (with_reducible assumption) | assumption)
                        have q137 : x4_1 < (l0_0.length : Int) := of_decide_eq_true (by first | (with_reducible assumption) | assumption)
                        obtain ⟨ad137, A137_0, c137_0, A137_1, c137_1, e137, hx137_0, hx137_1, hl137_0, hi137_0, hl137_1, hi137_1⟩ := at_T60 (Kd.V_reads' HO_135000.out).2.2 x4_1 p137 q137
                        cases e137
                        obtain ⟨ce137, hce137, hMe137, hcc137⟩ := Kd.V_get HO_135000.out z60 x4_1 p137 (by first | exact q137 | exact of_decide_eq_true (by first | (with_reducible assumption) | assumption) | (have e_ := (Kd.V_reads' HO_135000.out).1; omega))
                        obtain ⟨ua137_0, uc137_0, ua137_1, uc137_1, rfl, ul137_0, ge137_0, ul137_1, ge137_1⟩ := k60_openF hMe137
                        have hv137_0 := hcc137 0 _ rfl
                        rw [Nat.add_zero] at hv137_0
                        replace hv137_0 := Option.some.inj (hv137_0.symm.trans hx137_0)
                        injection hv137_0 with hva_ hvn_ hvc_
                        rw [hva_] at ge137_0
                        rw [hvc_] at ul137_0
                        have HL137_0 := Aside0.mk (show Kd.V Kd.string 9 _ w.heap.size _ _ ((rd_T60 l0_0 x4_1).f0) from Kd.V_mk ul137_0 ge137_0)
                        clear hva_ hvn_ hvc_ ge137_0 ul137_0
                        have hv137_1 := hcc137 1 _ rfl
                        rw [add_field _ _ 1 (by omega)] at hv137_1
                        replace hv137_1 := Option.some.inj (hv137_1.symm.trans hx137_1)
                        injection hv137_1 with hva_ hvn_ hvc_
                        rw [hva_] at ge137_1
                        rw [hvc_] at ul137_1
                        have HL137_1 := Aside0.mk (show Kd.V Kd.string 9 _ w.heap.size _ _ ((rd_T60 l0_0 x4_1).f1) from Kd.V_mk ul137_1 ge137_1)
                        clear hva_ hvn_ hvc_ ge137_1 ul137_1
                        clear hcc137 hce137
                        have HR137_0 := Aside0.mk hi137_0
                        have HC137_0 := Aside0.mk hl137_0
                        clear hi137_0 hl137_0
                        have HR137_1 := Aside0.mk hi137_1
                        have HC137_1 := Aside0.mk hl137_1
                        clear hi137_1 hl137_1
                        replace p137 := eq_true p137
                        replace q137 := eq_true q137
                        go_wp2_with (first | ((with_reducible refine gate_dst (N := 5) rfl ?_); refine box_event ?hg (N := 5) ?hd (cs := #[.slice none 0 0, .slice none 0 0]) (t := 60) ?hr ?_; (case hd => rfl); (case hg => rfl); (case hr => first | (go_simp; done) | (go_simp; rfl)); intro gb138 hg w49 hbox hb; have n0_ := Aside0.mk (Kd.V_below (Kd.V_elderB (by (with_reducible repeat (first | apply Kd.V_alloc | apply Kd.V_drewN | apply Kd.V_drew)); exact HO_135000.out) gb138 (Nat.le_of_eq hg.symm)) hb); have n1_ := Aside0.mk (Kd.N_below (Kd.N_elderB (by (with_reducible repeat (first | apply Kd.N_alloc | apply Kd.N_drewN | apply Kd.N_drew)); exact HO_137000.out) gb138 (Nat.le_of_eq hg.symm)) hb); have n2_ := Aside0.mk (Kd.V_below (Kd.V_elderB (by (with_reducible repeat (first | apply Kd.V_alloc | apply Kd.V_drewN | apply Kd.V_drew)); exact HL137_0.out) gb138 (Nat.le_of_eq hg.symm)) hb); have n3_ := Aside0.mk (Kd.V_below (Kd.V_elderB (by (with_reducible repeat (first | apply Kd.V_alloc | apply Kd.V_drewN | apply Kd.V_drew)); exact HL137_1.out) gb138 (Nat.le_of_eq hg.symm)) hb); have n4_ := Aside0.mk (blk_below (g := gb134) (o := .cells #[.slice (some ad137) l0_0.length c0_0] 25 (0, 0)) (by (with_reducible repeat (first | refine blk_drewN ?_ _ | refine blk_drew ?_ | refine blk_alloc ?_ _)); exact BK134.out) hb); have n5_ := Aside0.mk (blk_below (g := gb135) (o := .cells #[.slice none 0 0] 25 (0, 0)) (by (with_reducible repeat (first | refine blk_drewN ?_ _ | refine blk_drew ?_ | refine blk_alloc ?_ _)); exact BK135.out) hb); have n6_ := Aside0.mk (blk_below (g := gb136) (o := .cells #[u137000] 25 (0, 0)) (by (with_reducible repeat (first | refine blk_drewN ?_ _ | refine blk_drew ?_ | refine blk_alloc ?_ _)); exact BK136.out) hb); have n7_ := Aside0.mk (Kd.C_below (by repeat (first | (with_reducible exact HR137_0.out) | (with_reducible refine Kd.C_alloc ?_ _) | (with_reducible refine Kd.C_drewN ?_ _) | (with_reducible refine Kd.C_drew ?_) | exact HR137_0.out | exact (Kd.V_reads' HL137_0.out).2.2)) hb); have n8_ := Aside0.mk (Kd.C_below (by repeat (first | (with_reducible exact HR137_1.out) | (with_reducible refine Kd.C_alloc ?_ _) | (with_reducible refine Kd.C_drewN ?_ _) | (with_reducible refine Kd.C_drew ?_) | exact HR137_1.out | exact (Kd.V_reads' HL137_1.out).2.2)) hb); have n9_ := Aside0.mk (below_step (by repeat (first | (with_reducible first | exact HB.out | apply below_alloc | apply pw_below_drewN | apply below_drew1 | refine below_set ?_ GE134.out | refine below_set ?_ GE135.out | refine below_set ?_ GE136.out) | exact HB.out)) hb); have n10_ := Aside0.mk (hbox); have n11_ := Aside0.mk ((by rw [hg]; exact (below_size (by repeat (first | (with_reducible first | exact HB.out | apply below_alloc | apply pw_below_drewN | apply below_drew1 | refine below_set ?_ GE134.out | refine below_set ?_ GE135.out | refine below_set ?_ GE136.out) | exact HB.out))) : w.heap.size ≤ gb138)); have n12_ := Aside0.mk ((by rw [hg]; exact (below_size (by repeat (first | (with_reducible first | exact HB.out | apply below_alloc | apply pw_below_drewN | apply below_drew1 | refine below_set ?_ GE134.out | refine below_set ?_ GE135.out | refine below_set ?_ GE136.out) | exact HB.out))) : w.heap.size ≤ gb138)); have n13_ := Aside0.mk ((by rw [hg]; exact Nat.ne_of_lt (blk_lt (g := gb134) (o := .cells #[.slice (some ad137) l0_0.length c0_0] 25 (0, 0)) (by (with_reducible repeat (first | refine blk_drewN ?_ _ | refine blk_drew ?_ | refine blk_alloc ?_ _)); exact BK134.out)) : gb134 ≠ gb138)); have n14_ := Aside0.mk ((by rw [hg]; exact Nat.ne_of_gt (blk_lt (g := gb134) (o := .cells #[.slice (some ad137) l0_0.length c0_0] 25 (0, 0)) (by (with_reducible repeat (first | refine blk_drewN ?_ _ | refine blk_drew ?_ | refine blk_alloc ?_ _)); exact BK134.out)) : gb138 ≠ gb134)); have n15_ := Aside0.mk ((by rw [hg]; exact Nat.ne_of_lt (blk_lt (g := gb135) (o := .cells #[.slice none 0 0] 25 (0, 0)) (by (with_reducible repeat (first | refine blk_drewN ?_ _ | refine blk_drew ?_ | refine blk_alloc ?_ _)); exact BK135.out)) : gb135 ≠ gb138)); have n16_ := Aside0.mk ((by rw [hg]; exact Nat.ne_of_gt (blk_lt (g := gb135) (o := .cells #[.slice none 0 0] 25 (0, 0)) (by (with_reducible repeat (first | refine blk_drewN ?_ _ | refine blk_drew ?_ | refine blk_alloc ?_ _)); exact BK135.out)) : gb138 ≠ gb135)); have n17_ := Aside0.mk ((by rw [hg]; exact Nat.ne_of_lt (blk_lt (g := gb136) (o := .cells #[u137000] 25 (0, 0)) (by (with_reducible repeat (first | refine blk_drewN ?_ _ | refine blk_drew ?_ | refine blk_alloc ?_ _)); exact BK136.out)) : gb136 ≠ gb138)); have n18_ := Aside0.mk ((by rw [hg]; exact Nat.ne_of_gt (blk_lt (g := gb136) (o := .cells #[u137000] 25 (0, 0)) (by (with_reducible repeat (first | refine blk_drewN ?_ _ | refine blk_drew ?_ | refine blk_alloc ?_ _)); exact BK136.out)) : gb138 ≠ gb136)); clear HO_135000; clear HO_137000; clear HL137_0; clear HL137_1; clear BK134; clear BK135; clear BK136; clear HR137_0; clear HR137_1; clear HB; have HO_135000 := n0_; have HO_137000 := n1_; have HL137_0 := n2_; have HL137_1 := n3_; have BK134 := n4_; have BK135 := n5_; have BK136 := n6_; have HR137_0 := n7_; have HR137_1 := n8_; have HB := n9_; have BK138 := n10_; have GW138 := n11_; have GE138 := n12_; have NB134_138 := n13_; have NB138_134 := n14_; have NB135_138 := n15_; have NB138_135 := n16_; have NB136_138 := n17_; have NB138_136 := n18_; clear n0_ n1_ n2_ n3_ n4_ n5_ n6_ n7_ n8_ n9_ n10_ n11_ n12_ n13_ n14_ n15_ n16_ n17_ n18_; clear hb hbox hg; have hnb50 := NB138_134.out; have hnc50 := NB134_138.out; have hnb51 := NB138_135.out; have hnc51 := NB135_138.out; have hnb52 := NB138_136.out; have hnc52 := NB136_138.out; have hcz53_0 : w49.cell? ⟨gb138, 0, none⟩ = some (.slice none 0 0) := (blk_cell BK138.out 0).trans rfl; have hcz53_1 : w49.cell? ⟨gb138, 1, none⟩ = some (.slice none 0 0) := (blk_cell BK138.out 1).trans rfl; have hfz53_0 := blk_frozen BK138.out 0; have hfz53_1 := blk_frozen BK138.out 1) | ((with_reducible refine gate_store (t := 60) (p := 5) rfl ?_); refine store_event (t := 60) (p := 5) (v := ?vo_w54) (w1 := ((w49.setCell ⟨gb138, 0, none⟩ (.slice A137_0 ((rd_T60 l0_0 x4_1).f0).length c137_0)).setCell ⟨gb138, 1, none⟩ (.slice A137_1 ((rd_T60 l0_0 x4_1).f1).length c137_1))) ?hg ?ho ?hn ?hr ?_; (case ho => rfl); (case hg => rfl); (case hn => rfl); (case hr => first | (go_simp; done) | (go_simp; rfl)); intro w54 hw; have n0_ : Aside0 (Kd.V k60 60 w54 w.heap.size (fun k_ => (P0_0_ k_ ∨ w.heap.size ≤ k_) ∧ some k_ ≠ (u137000 : Value).ownBlock ∧ k_ ≠ gb134 ∧ k_ ≠ gb135 ∧ k_ ≠ gb136 ∧ k_ ≠ gb138) (.slice (some ad137) l0_0.length c0_0) l0_0) := ⟨(by rw [hw]; exact (by (with_reducible repeat (first | apply Kd.V_alloc | apply Kd.V_drewN | apply Kd.V_drew)); exact Kd.V_mono (Kd.V_far (p := ⟨gb138, 1, none⟩) (Kd.V_far (p := ⟨gb138, 0, none⟩) (Kd.V_mono HO_135000.out (fun k_ hk => (⟨hk, hk.2⟩ : _ ∧ k_ ≠ gb138))) (fun _ hk => hk.2) (.slice A137_0 ((rd_T60 l0_0 x4_1).f0).length c137_0)) (fun _ hk => hk.2) (.slice A137_1 ((rd_T60 l0_0 x4_1).f1).length c137_1)) (fun _ hk => ⟨hk.1.1.1, ⟨hk.1.1.2.1, ⟨hk.1.1.2.2.1, ⟨hk.1.1.2.2.2.1, ⟨hk.1.1.2.2.2.2, hk.1.2⟩⟩⟩⟩⟩)))⟩; have n1_ : Aside0 (Kd.N k60 60 w54 w.heap.size (fun k_ => (P0_0_ k_ ∨ w.heap.size ≤ k_) ∧ k_ ≠ gb134 ∧ k_ ≠ gb135 ∧ k_ ≠ gb136 ∧ k_ ≠ gb138) u137000 x137000_1) := ⟨(by rw [hw]; exact (by (with_reducible repeat (first | apply Kd.N_alloc | apply Kd.N_drewN | apply Kd.N_drew)); exact Kd.N_mono (Kd.N_far (p := ⟨gb138, 1, none⟩) (Kd.N_far (p := ⟨gb138, 0, none⟩) (Kd.N_mono HO_137000.out (fun k_ hk => (⟨hk, hk.2⟩ : _ ∧ k_ ≠ gb138))) (fun _ hk => hk.2) (.slice A137_0 ((rd_T60 l0_0 x4_1).f0).length c137_0)) (fun _ hk => hk.2) (.slice A137_1 ((rd_T60 l0_0 x4_1).f1).length c137_1)) (fun _ hk => ⟨hk.1.1.1, ⟨hk.1.1.2.1, ⟨hk.1.1.2.2.1, ⟨hk.1.1.2.2.2, hk.1.2⟩⟩⟩⟩)))⟩; have n2_ : Aside0 (Kd.V Kd.string 9 w54 w.heap.size (fun k_ => (P0_0_ k_ ∨ w.heap.size ≤ k_) ∧ some k_ ≠ (u137000 : Value).ownBlock ∧ k_ ≠ gb134 ∧ k_ ≠ gb135 ∧ k_ ≠ gb136 ∧ k_ ≠ gb138) (.slice A137_0 ((rd_T60 l0_0 x4_1).f0).length c137_0) ((rd_T60 l0_0 x4_1).f0)) := ⟨(by rw [hw]; exact (by (with_reducible repeat (first | apply Kd.V_alloc | apply Kd.V_drewN | apply Kd.V_drew)); exact Kd.V_mono (Kd.V_far (p := ⟨gb138, 1, none⟩) (Kd.V_far (p := ⟨gb138, 0, none⟩) (Kd.V_mono HL137_0.out (fun k_ hk => (⟨hk, hk.2⟩ : _ ∧ k_ ≠ gb138))) (fun _ hk => hk.2) (.slice A137_0 ((rd_T60 l0_0 x4_1).f0).length c137_0)) (fun _ hk => hk.2) (.slice A137_1 ((rd_T60 l0_0 x4_1).f1).length c137_1)) (fun _ hk => ⟨hk.1.1.1, ⟨hk.1.1.2.1, ⟨hk.1.1.2.2.1, ⟨hk.1.1.2.2.2.1, ⟨hk.1.1.2.2.2.2, hk.1.2⟩⟩⟩⟩⟩)))⟩; have n3_ : Aside0 (Kd.V Kd.string 9 w54 w.heap.size (fun k_ => (P0_0_ k_ ∨ w.heap.size ≤ k_) ∧ some k_ ≠ (u137000 : Value).ownBlock ∧ k_ ≠ gb134 ∧ k_ ≠ gb135 ∧ k_ ≠ gb136 ∧ k_ ≠ gb138) (.slice A137_1 ((rd_T60 l0_0 x4_1).f1).length c137_1) ((rd_T60 l0_0 x4_1).f1)) := ⟨(by rw [hw]; exact (by (with_reducible repeat (first | apply Kd.V_alloc | apply Kd.V_drewN | apply Kd.V_drew)); exact Kd.V_mono (Kd.V_far (p := ⟨gb138, 1, none⟩) (Kd.V_far (p := ⟨gb138, 0, none⟩) (Kd.V_mono HL137_1.out (fun k_ hk => (⟨hk, hk.2⟩ : _ ∧ k_ ≠ gb138))) (fun _ hk => hk.2) (.slice A137_0 ((rd_T60 l0_0 x4_1).f0).length c137_0)) (fun _ hk => hk.2) (.slice A137_1 ((rd_T60 l0_0 x4_1).f1).length c137_1)) (fun _ hk => ⟨hk.1.1.1, ⟨hk.1.1.2.1, ⟨hk.1.1.2.2.1, ⟨hk.1.1.2.2.2.1, ⟨hk.1.1.2.2.2.2, hk.1.2⟩⟩⟩⟩⟩)))⟩; have n4_ : Aside0 (w54.heap[gb134]? = some (.cells #[.slice (some ad137) l0_0.length c0_0] 25 (0, 0))) := ⟨(by rw [hw]; exact (by (with_reducible repeat (first | refine blk_drewN ?_ _ | refine blk_drew ?_ | refine blk_alloc ?_ _)); refine blk_far ?_ NB134_138.out _; (with_reducible repeat (first | refine blk_drewN ?_ _ | refine blk_drew ?_ | refine blk_alloc ?_ _)); refine blk_far ?_ NB134_138.out _; (with_reducible repeat (first | refine blk_drewN ?_ _ | refine blk_drew ?_ | refine blk_alloc ?_ _)); exact BK134.out))⟩; have n5_ : Aside0 (w54.heap[gb135]? = some (.cells #[.slice none 0 0] 25 (0, 0))) := ⟨(by rw [hw]; exact (by (with_reducible repeat (first | refine blk_drewN ?_ _ | refine blk_drew ?_ | refine blk_alloc ?_ _)); refine blk_far ?_ NB135_138.out _; (with_reducible repeat (first | refine blk_drewN ?_ _ | refine blk_drew ?_ | refine blk_alloc ?_ _)); refine blk_far ?_ NB135_138.out _; (with_reducible repeat (first | refine blk_drewN ?_ _ | refine blk_drew ?_ | refine blk_alloc ?_ _)); exact BK135.out))⟩; have n6_ : Aside0 (w54.heap[gb136]? = some (.cells #[u137000] 25 (0, 0))) := ⟨(by rw [hw]; exact (by (with_reducible repeat (first | refine blk_drewN ?_ _ | refine blk_drew ?_ | refine blk_alloc ?_ _)); refine blk_far ?_ NB136_138.out _; (with_reducible repeat (first | refine blk_drewN ?_ _ | refine blk_drew ?_ | refine blk_alloc ?_ _)); refine blk_far ?_ NB136_138.out _; (with_reducible repeat (first | refine blk_drewN ?_ _ | refine blk_drew ?_ | refine blk_alloc ?_ _)); exact BK136.out))⟩; have n7_ : Aside0 (w54.heap[gb138]? = some (.cells #[.slice A137_0 ((rd_T60 l0_0 x4_1).f0).length c137_0, .slice A137_1 ((rd_T60 l0_0 x4_1).f1).length c137_1] 60 (0, 0))) := ⟨(by rw [hw]; exact (by (with_reducible repeat (first | refine blk_drewN ?_ _ | refine blk_drew ?_ | refine blk_alloc ?_ _)); refine blk_put (cs := #[.slice A137_0 ((rd_T60 l0_0 x4_1).f0).length c137_0, .slice none 0 0]) ?_ 1 _ rfl; (with_reducible repeat (first | refine blk_drewN ?_ _ | refine blk_drew ?_ | refine blk_alloc ?_ _)); refine blk_put (cs := #[.slice none 0 0, .slice none 0 0]) ?_ 0 _ rfl; (with_reducible repeat (first | refine blk_drewN ?_ _ | refine blk_drew ?_ | refine blk_alloc ?_ _)); exact BK138.out))⟩; have n8_ : Aside0 (Below w.heap.size w w54) := ⟨(by rw [hw]; exact (by repeat (first | (with_reducible first | exact HB.out | apply below_alloc | apply pw_below_drewN | apply below_drew1 | refine below_set ?_ GE134.out | refine below_set ?_ GE135.out | refine below_set ?_ GE136.out | refine below_set ?_ GE138.out) | exact HB.out)))⟩; clear hw; clear HO_135000; clear HO_137000; clear HL137_0; clear HL137_1; clear BK134; clear BK135; clear BK136; clear BK138; clear HB; have HO_135000 := n0_; have HO_137000 := n1_; have HL137_0 := n2_; have HL137_1 := n3_; have BK134 := n4_; have BK135 := n5_; have BK136 := n6_; have BK138 := n7_; have HB := n8_; clear n0_ n1_ n2_ n3_ n4_ n5_ n6_ n7_ n8_; have hcz55_0 : w54.cell? ⟨gb138, 0, none⟩ = some (.slice A137_0 ((rd_T60 l0_0 x4_1).f0).length c137_0) := (blk_cell BK138.out 0).trans rfl; have hcz55_1 : w54.cell? ⟨gb138, 1, none⟩ = some (.slice A137_1 ((rd_T60 l0_0 x4_1).f1).length c137_1) := (blk_cell BK138.out 1).trans rfl; have hfz55_0 := blk_frozen BK138.out 0; have hfz55_1 := blk_frozen BK138.out 1; have q56 : (8 : Int) ≤ ((((rd_T60 l0_0 x4_1).f0).length : Int) : Int) := of_decide_eq_true (by first | (with_reducible assumption) | assumption); obtain ⟨i056, hi056, _, hsz56, _⟩ := info_parts info9; have hroom56 : ((rd_T60 l0_0 x4_1).f0).length ≤ c137_0 := HC137_0.out; have hC56 : Kd.F Kd.string _ _ A137_0 ((rd_T60 l0_0 x4_1).f0).length ((rd_T60 l0_0 x4_1).f0) := (Kd.V_at (base := w.heap.size) HL137_0.out).2.2; have hcut56 := cut_to (P := Try.prog) 58 9 .i64 Try.underlying58 hi056 A137_0 ((rd_T60 l0_0 x4_1).f0).length c137_0 8 (by omega) q56 hroom56; have hr56 := Kd.F_take (m := 8) hC56 (by omega); have hy56 : y139.length = (8 : Int).toNat := (by rw [Ny139.out, List.length_take]; omega); rw [← Ny139.out] at hr56; rw [← hy56] at hcut56; have HO143 := Aside0.mk (show Kd.V Kd.string 9 _ w.heap.size _ (.slice A137_0 y139.length c137_0) y139 from Kd.V_mk (by omega) hr56); have HC143 := Aside0.mk (show y139.length ≤ c137_0 from by omega); clear hr56 hC56 hroom56 hi056 hsz56; have KY56 := Aside0.mk hy56; clear hy56; replace q56 := eq_true q56) | ((with_reducible refine gate_store (t := 58) (p := 30) rfl ?_); refine store_event (t := 58) (p := 30) (v := ?vo_w57) (w1 := (w54.setCell ⟨gb138, 0, none⟩ (.slice A137_0 y139.length c137_0))) ?hg ?ho ?hn ?hr ?_; (case ho => rfl); (case hg => rfl); (case hn => rfl); (case hr => first | (go_simp; done) | (go_simp; rfl)); intro w57 hw; have n0_ : Aside0 (Kd.V k60 60 w57 w.heap.size (fun k_ => (P0_0_ k_ ∨ w.heap.size ≤ k_) ∧ some k_ ≠ (u137000 : Value).ownBlock ∧ k_ ≠ gb134 ∧ k_ ≠ gb135 ∧ k_ ≠ gb136 ∧ k_ ≠ gb138) (.slice (some ad137) l0_0.length c0_0) l0_0) := ⟨(by rw [hw]; exact (by (with_reducible repeat (first | apply Kd.V_alloc | apply Kd.V_drewN | apply Kd.V_drew)); exact Kd.V_mono (Kd.V_far (p := ⟨gb138, 0, none⟩) (Kd.V_mono HO_135000.out (fun k_ hk => (⟨hk, hk.2.2.2.2.2⟩ : _ ∧ k_ ≠ gb138))) (fun _ hk => hk.2) (.slice A137_0 y139.length c137_0)) (fun _ hk => ⟨hk.1.1, ⟨hk.1.2.1, ⟨hk.1.2.2.1, ⟨hk.1.2.2.2.1, ⟨hk.1.2.2.2.2.1, hk.1.2.2.2.2.2⟩⟩⟩⟩⟩)))⟩; have n1_ : Aside0 (Kd.N k60 60 w57 w.heap.size (fun k_ => (P0_0_ k_ ∨ w.heap.size ≤ k_) ∧ k_ ≠ gb134 ∧ k_ ≠ gb135 ∧ k_ ≠ gb136 ∧ k_ ≠ gb138) u137000 x137000_1) := ⟨(by rw [hw]; exact (by (with_reducible repeat (first | apply Kd.N_alloc | apply Kd.N_drewN | apply Kd.N_drew)); exact Kd.N_mono (Kd.N_far (p := ⟨gb138, 0, none⟩) (Kd.N_mono HO_137000.out (fun k_ hk => (⟨hk, hk.2.2.2.2⟩ : _ ∧ k_ ≠ gb138))) (fun _ hk => hk.2) (.slice A137_0 y139.length c137_0)) (fun _ hk => ⟨hk.1.1, ⟨hk.1.2.1, ⟨hk.1.2.2.1, ⟨hk.1.2.2.2.1, hk.1.2.2.2.2⟩⟩⟩⟩)))⟩; have n2_ : Aside0 (Kd.V Kd.string 9 w57 w.heap.size (fun k_ => (P0_0_ k_ ∨ w.heap.size ≤ k_) ∧ some k_ ≠ (u137000 : Value).ownBlock ∧ k_ ≠ gb134 ∧ k_ ≠ gb135 ∧ k_ ≠ gb136 ∧ k_ ≠ gb138) (.slice A137_0 ((rd_T60 l0_0 x4_1).f0).length c137_0) ((rd_T60 l0_0 x4_1).f0)) := ⟨(by rw [hw]; exact (by (with_reducible repeat (first | apply Kd.V_alloc | apply Kd.V_drewN | apply Kd.V_drew)); exact Kd.V_mono (Kd.V_far (p := ⟨gb138, 0, none⟩) (Kd.V_mono HL137_0.out (fun k_ hk => (⟨hk, hk.2.2.2.2.2⟩ : _ ∧ k_ ≠ gb138))) (fun _ hk => hk.2) (.slice A137_0 y139.length c137_0)) (fun _ hk => ⟨hk.1.1, ⟨hk.1.2.1, ⟨hk.1.2.2.1, ⟨hk.1.2.2.2.1, ⟨hk.1.2.2.2.2.1, hk.1.2.2.2.2.2⟩⟩⟩⟩⟩)))⟩; have n3_ : Aside0 (Kd.V Kd.string 9 w57 w.heap.size (fun k_ => (P0_0_ k_ ∨ w.heap.size ≤ k_) ∧ some k_ ≠ (u137000 : Value).ownBlock ∧ k_ ≠ gb134 ∧ k_ ≠ gb135 ∧ k_ ≠ gb136 ∧ k_ ≠ gb138) (.slice A137_1 ((rd_T60 l0_0 x4_1).f1).length c137_1) ((rd_T60 l0_0 x4_1).f1)) := ⟨(by rw [hw]; exact (by (with_reducible repeat (first | apply Kd.V_alloc | apply Kd.V_drewN | apply Kd.V_drew)); exact Kd.V_mono (Kd.V_far (p := ⟨gb138, 0, none⟩) (Kd.V_mono HL137_1.out (fun k_ hk => (⟨hk, hk.2.2.2.2.2⟩ : _ ∧ k_ ≠ gb138))) (fun _ hk => hk.2) (.slice A137_0 y139.length c137_0)) (fun _ hk => ⟨hk.1.1, ⟨hk.1.2.1, ⟨hk.1.2.2.1, ⟨hk.1.2.2.2.1, ⟨hk.1.2.2.2.2.1, hk.1.2.2.2.2.2⟩⟩⟩⟩⟩)))⟩; have n4_ : Aside0 (Kd.V Kd.string 9 w57 w.heap.size (fun k_ => (P0_0_ k_ ∨ w.heap.size ≤ k_) ∧ some k_ ≠ (u137000 : Value).ownBlock ∧ k_ ≠ gb134 ∧ k_ ≠ gb135 ∧ k_ ≠ gb136 ∧ k_ ≠ gb138) (.slice A137_0 y139.length c137_0) y139) := ⟨(by rw [hw]; exact (by (with_reducible repeat (first | apply Kd.V_alloc | apply Kd.V_drewN | apply Kd.V_drew)); exact Kd.V_mono (Kd.V_far (p := ⟨gb138, 0, none⟩) (Kd.V_mono HO143.out (fun k_ hk => (⟨hk, hk.2.2.2.2.2⟩ : _ ∧ k_ ≠ gb138))) (fun _ hk => hk.2) (.slice A137_0 y139.length c137_0)) (fun _ hk => ⟨hk.1.1, ⟨hk.1.2.1, ⟨hk.1.2.2.1, ⟨hk.1.2.2.2.1, ⟨hk.1.2.2.2.2.1, hk.1.2.2.2.2.2⟩⟩⟩⟩⟩)))⟩; have n5_ : Aside0 (w57.heap[gb134]? = some (.cells #[.slice (some ad137) l0_0.length c0_0] 25 (0, 0))) := ⟨(by rw [hw]; exact (by (with_reducible repeat (first | refine blk_drewN ?_ _ | refine blk_drew ?_ | refine blk_alloc ?_ _)); refine blk_far ?_ NB134_138.out _; (with_reducible repeat (first | refine blk_drewN ?_ _ | refine blk_drew ?_ | refine blk_alloc ?_ _)); exact BK134.out))⟩; have n6_ : Aside0 (w57.heap[gb135]? = some (.cells #[.slice none 0 0] 25 (0, 0))) := ⟨(by rw [hw]; exact (by (with_reducible repeat (first | refine blk_drewN ?_ _ | refine blk_drew ?_ | refine blk_alloc ?_ _)); refine blk_far ?_ NB135_138.out _; (with_reducible repeat (first | refine blk_drewN ?_ _ | refine blk_drew ?_ | refine blk_alloc ?_ _)); exact BK135.out))⟩; have n7_ : Aside0 (w57.heap[gb136]? = some (.cells #[u137000] 25 (0, 0))) := ⟨(by rw [hw]; exact (by (with_reducible repeat (first | refine blk_drewN ?_ _ | refine blk_drew ?_ | refine blk_alloc ?_ _)); refine blk_far ?_ NB136_138.out _; (with_reducible repeat (first | refine blk_drewN ?_ _ | refine blk_drew ?_ | refine blk_alloc ?_ _)); exact BK136.out))⟩; have n8_ : Aside0 (w57.heap[gb138]? = some (.cells #[.slice A137_0 y139.length c137_0, .slice A137_1 ((rd_T60 l0_0 x4_1).f1).length c137_1] 60 (0, 0))) := ⟨(by rw [hw]; exact (by (with_reducible repeat (first | refine blk_drewN ?_ _ | refine blk_drew ?_ | refine blk_alloc ?_ _)); refine blk_put (cs := #[.slice A137_0 ((rd_T60 l0_0 x4_1).f0).length c137_0, .slice A137_1 ((rd_T60 l0_0 x4_1).f1).length c137_1]) ?_ 0 _ rfl; (with_reducible repeat (first | refine blk_drewN ?_ _ | refine blk_drew ?_ | refine blk_alloc ?_ _)); exact BK138.out))⟩; have n9_ : Aside0 (Below w.heap.size w w57) := ⟨(by rw [hw]; exact (by repeat (first | (with_reducible first | exact HB.out | apply below_alloc | apply pw_below_drewN | apply below_drew1 | refine below_set ?_ GE134.out | refine below_set ?_ GE135.out | refine below_set ?_ GE136.out | refine below_set ?_ GE138.out) | exact HB.out)))⟩; clear hw; clear HO_135000; clear HO_137000; clear HL137_0; clear HL137_1; clear HO143; clear BK134; clear BK135; clear BK136; clear BK138; clear HB; have HO_135000 := n0_; have HO_137000 := n1_; have HL137_0 := n2_; have HL137_1 := n3_; have HO143 := n4_; have BK134 := n5_; have BK135 := n6_; have BK136 := n7_; have BK138 := n8_; have HB := n9_; clear n0_ n1_ n2_ n3_ n4_ n5_ n6_ n7_ n8_ n9_; have hcz58_0 : w57.cell? ⟨gb138, 0, none⟩ = some (.slice A137_0 y139.length c137_0) := (blk_cell BK138.out 0).trans rfl; have hcz58_1 : w57.cell? ⟨gb138, 1, none⟩ = some (.slice A137_1 ((rd_T60 l0_0 x4_1).f1).length c137_1) := (blk_cell BK138.out 1).trans rfl; have hfz58_0 := blk_frozen BK138.out 0; have hfz58_1 := blk_frozen BK138.out 1; have hnb59 := NB136_135.out; have hnc59 := NB135_136.out; have hcz60_0 : w57.cell? ⟨gb136, 0, none⟩ = some (u137000) := (blk_cell BK136.out 0).trans rfl; have hfz60_0 := blk_frozen BK136.out 0) | ((with_reducible refine gate_builtin (b := .append) (xs := #[.tmp 40, .tmp 42]) rfl ?_); at_builtin; refine Kd.N_append k60 (w0 := w) w.heap.size rfl (.tmp 40) (.tmp 42) 23 60 (.agg #[(.slice none 0 0), (.slice none 0 0)]) 48 rfl Try.underlying23 info60 rfl (by decide) (by omega) u137000 x137000_1 (⟨y139, (rd_T60 l0_0 x4_1).f1⟩ : S60) [.slice A137_0 y139.length c137_0, .slice A137_1 ((rd_T60 l0_0 x4_1).f1).length c137_1] (fun k_ => (P0_0_ k_ ∨ w.heap.size ≤ k_) ∧ k_ ≠ gb134 ∧ k_ ≠ gb135 ∧ k_ ≠ gb136 ∧ k_ ≠ gb138) (fun k_ => ((fun k_ => (P0_0_ k_ ∨ w.heap.size ≤ k_) ∧ k_ ≠ gb134 ∧ k_ ≠ gb135 ∧ k_ ≠ gb136 ∧ k_ ≠ gb138)) k_ ∧ some k_ ≠ (u137000 : Value).ownBlock) rfl rfl ?aP (fun _ hk => hk) ?aF ?aO ?aB ?aS ?aL ?_; (case aP => exact (k60_mkF _ _ (⟨y139, (rd_T60 l0_0 x4_1).f1⟩ : S60) (Kd.V_reads' (Kd.V_mono (ok' := (fun k_ => ((fun k_ => (P0_0_ k_ ∨ w.heap.size ≤ k_) ∧ k_ ≠ gb134 ∧ k_ ≠ gb135 ∧ k_ ≠ gb136 ∧ k_ ≠ gb138)) k_ ∧ some k_ ≠ (u137000 : Value).ownBlock)) (HO143.out) (fun k_ hk => ⟨⟨hk.1, ⟨hk.2.2.1, ⟨hk.2.2.2.1, ⟨hk.2.2.2.2.1, hk.2.2.2.2.2⟩⟩⟩⟩, hk.2.1⟩))).2.1 (Kd.V_F (Kd.V_mono (ok' := (fun k_ => ((fun k_ => (P0_0_ k_ ∨ w.heap.size ≤ k_) ∧ k_ ≠ gb134 ∧ k_ ≠ gb135 ∧ k_ ≠ gb136 ∧ k_ ≠ gb138)) k_ ∧ some k_ ≠ (u137000 : Value).ownBlock)) (HO143.out) (fun k_ hk => ⟨⟨hk.1, ⟨hk.2.2.1, ⟨hk.2.2.2.1, ⟨hk.2.2.2.2.1, hk.2.2.2.2.2⟩⟩⟩⟩, hk.2.1⟩))) (Kd.V_reads' (Kd.V_mono (ok' := (fun k_ => ((fun k_ => (P0_0_ k_ ∨ w.heap.size ≤ k_) ∧ k_ ≠ gb134 ∧ k_ ≠ gb135 ∧ k_ ≠ gb136 ∧ k_ ≠ gb138)) k_ ∧ some k_ ≠ (u137000 : Value).ownBlock)) (HL137_1.out) (fun k_ hk => ⟨⟨hk.1, ⟨hk.2.2.1, ⟨hk.2.2.2.1, ⟨hk.2.2.2.2.1, hk.2.2.2.2.2⟩⟩⟩⟩, hk.2.1⟩))).2.1 (Kd.V_F (Kd.V_mono (ok' := (fun k_ => ((fun k_ => (P0_0_ k_ ∨ w.heap.size ≤ k_) ∧ k_ ≠ gb134 ∧ k_ ≠ gb135 ∧ k_ ≠ gb136 ∧ k_ ≠ gb138)) k_ ∧ some k_ ≠ (u137000 : Value).ownBlock)) (HL137_1.out) (fun k_ hk => ⟨⟨hk.1, ⟨hk.2.2.1, ⟨hk.2.2.2.1, ⟨hk.2.2.2.2.1, hk.2.2.2.2.2⟩⟩⟩⟩, hk.2.1⟩))))); (case aB => exact (by repeat (first | (with_reducible first | exact HB.out | apply below_alloc | apply pw_below_drewN | apply below_drew1 | refine below_set ?_ GE134.out | refine below_set ?_ GE135.out | refine below_set ?_ GE136.out | refine below_set ?_ GE138.out) | exact HB.out))); (case aF => exact (fun k_ hk => ⟨(.inr (Nat.le_trans (below_size (by repeat (first | (with_reducible first | exact HB.out | apply below_alloc | apply pw_below_drewN | apply below_drew1 | refine below_set ?_ GE134.out | refine below_set ?_ GE135.out | refine below_set ?_ GE136.out | refine below_set ?_ GE138.out) | exact HB.out))) hk)), Kd.freshB (g := gb134) (o := .cells #[.slice (some ad137) l0_0.length c0_0] 25 (0, 0)) (by (with_reducible repeat (first | refine blk_drewN ?_ _ | refine blk_drew ?_ | refine blk_alloc ?_ _)); exact BK134.out) k_ hk, Kd.freshB (g := gb135) (o := .cells #[.slice none 0 0] 25 (0, 0)) (by (with_reducible repeat (first | refine blk_drewN ?_ _ | refine blk_drew ?_ | refine blk_alloc ?_ _)); exact BK135.out) k_ hk, Kd.freshB (g := gb136) (o := .cells #[u137000] 25 (0, 0)) (by (with_reducible repeat (first | refine blk_drewN ?_ _ | refine blk_drew ?_ | refine blk_alloc ?_ _)); exact BK136.out) k_ hk, Kd.freshB (g := gb138) (o := .cells #[.slice A137_0 y139.length c137_0, .slice A137_1 ((rd_T60 l0_0 x4_1).f1).length c137_1] 60 (0, 0)) (by (with_reducible repeat (first | refine blk_drewN ?_ _ | refine blk_drew ?_ | refine blk_alloc ?_ _)); exact BK138.out) k_ hk⟩)); (case aO => exact (by (with_reducible repeat (first | apply Kd.N_alloc | apply Kd.N_drewN | apply Kd.N_drew)); exact HO_137000.out)); (case aS => exact (below_size (by repeat (first | (with_reducible first | exact HB.out | apply below_alloc | apply pw_below_drewN | apply below_drew1 | refine below_set ?_ GE134.out | refine below_set ?_ GE135.out | refine below_set ?_ GE136.out | refine below_set ?_ GE138.out) | exact HB.out)))); (case aL => have := LMc45.out; omega); intro v153 w61 ho hb hg hat; rw [← Ny152.out] at ho; have n0_ := Aside0.mk (Kd.V_afterv (ok := (fun k_ => (P0_0_ k_ ∨ w.heap.size ≤ k_) ∧ k_ ≠ gb134 ∧ k_ ≠ gb135 ∧ k_ ≠ gb136 ∧ k_ ≠ gb138)) (by (with_reducible repeat (first | apply Kd.V_alloc | apply Kd.V_drewN | apply Kd.V_drew)); exact Kd.V_mono HO_135000.out (fun _ hk => ⟨⟨hk.1, ⟨hk.2.2.1, ⟨hk.2.2.2.1, ⟨hk.2.2.2.2.1, hk.2.2.2.2.2⟩⟩⟩⟩, hk.2.1⟩)) hg hat); have n1_ := Aside0.mk (blk_grown (g := gb134) (o := .cells #[.slice (some ad137) l0_0.length c0_0] 25 (0, 0)) (by (with_reducible repeat (first | refine blk_drewN ?_ _ | refine blk_drew ?_ | refine blk_alloc ?_ _)); exact BK134.out) hg (Kd.N_ne HO_137000.out BK134.out (by decide))); have n2_ := Aside0.mk (blk_grown (g := gb135) (o := .cells #[.slice none 0 0] 25 (0, 0)) (by (with_reducible repeat (first | refine blk_drewN ?_ _ | refine blk_drew ?_ | refine blk_alloc ?_ _)); exact BK135.out) hg (Kd.N_ne HO_137000.out BK135.out (by decide))); have n3_ := Aside0.mk (blk_grown (g := gb136) (o := .cells #[u137000] 25 (0, 0)) (by (with_reducible repeat (first | refine blk_drewN ?_ _ | refine blk_drew ?_ | refine blk_alloc ?_ _)); exact BK136.out) hg (Kd.N_ne HO_137000.out BK136.out (by decide))); have n4_ := Aside0.mk (Kd.V_afterv (ok := (fun k_ => (P0_0_ k_ ∨ w.heap.size ≤ k_) ∧ k_ ≠ gb134 ∧ k_ ≠ gb135 ∧ k_ ≠ gb136 ∧ k_ ≠ gb138)) (by (with_reducible repeat (first | apply Kd.V_alloc | apply Kd.V_drewN | apply Kd.V_drew)); exact Kd.V_mono HL137_0.out (fun _ hk => ⟨⟨hk.1, ⟨hk.2.2.1, ⟨hk.2.2.2.1, ⟨hk.2.2.2.2.1, hk.2.2.2.2.2⟩⟩⟩⟩, hk.2.1⟩)) hg hat); have n5_ := Aside0.mk (Kd.V_afterv (ok := (fun k_ => (P0_0_ k_ ∨ w.heap.size ≤ k_) ∧ k_ ≠ gb134 ∧ k_ ≠ gb135 ∧ k_ ≠ gb136 ∧ k_ ≠ gb138)) (by (with_reducible repeat (first | apply Kd.V_alloc | apply Kd.V_drewN | apply Kd.V_drew)); exact Kd.V_mono HL137_1.out (fun _ hk => ⟨⟨hk.1, ⟨hk.2.2.1, ⟨hk.2.2.2.1, ⟨hk.2.2.2.2.1, hk.2.2.2.2.2⟩⟩⟩⟩, hk.2.1⟩)) hg hat); have n6_ := Aside0.mk (blk_grown (g := gb138) (o := .cells #[.slice A137_0 y139.length c137_0, .slice A137_1 ((rd_T60 l0_0 x4_1).f1).length c137_1] 60 (0, 0)) (by (with_reducible repeat (first | refine blk_drewN ?_ _ | refine blk_drew ?_ | refine blk_alloc ?_ _)); exact BK138.out) hg (Kd.N_away HO_137000.out (fun _ hk => hk.2.2.2.2))); have n7_ := Aside0.mk (Kd.V_afterv (ok := (fun k_ => (P0_0_ k_ ∨ w.heap.size ≤ k_) ∧ k_ ≠ gb134 ∧ k_ ≠ gb135 ∧ k_ ≠ gb136 ∧ k_ ≠ gb138)) (by (with_reducible repeat (first | apply Kd.V_alloc | apply Kd.V_drewN | apply Kd.V_drew)); exact Kd.V_mono HO143.out (fun _ hk => ⟨⟨hk.1, ⟨hk.2.2.1, ⟨hk.2.2.2.1, ⟨hk.2.2.2.2.1, hk.2.2.2.2.2⟩⟩⟩⟩, hk.2.1⟩)) hg hat); have n8_ := Aside0.mk (hb); have n9_ := Aside0.mk (ho); clear HO_135000; clear BK134; clear BK135; clear BK136; clear HL137_0; clear HL137_1; clear BK138; clear HO143; clear HB; clear HO_137000; have HO_135000 := n0_; have BK134 := n1_; have BK135 := n2_; have BK136 := n3_; have HL137_0 := n4_; have HL137_1 := n5_; have BK138 := n6_; have HO143 := n7_; have HB := n8_; have HO154 := n9_; clear n0_ n1_ n2_ n3_ n4_ n5_ n6_ n7_ n8_ n9_; clear ho hb hg hat; obtain ⟨Ao62, co62, eo62⟩ := Kd.N_slice HO154.out; subst eo62; have hcz63_0 : w61.cell? ⟨gb136, 0, none⟩ = some (u137000) := (blk_cell BK136.out 0).trans rfl; have hfz63_0 := blk_frozen BK136.out 0))
                        go_roundg kj7
                        case measure => have := HK1.out; have := HJ7.out; omega
                        case rel => exact ⟨(wrap64 (x4_1 + 1)), (y152), (.slice Ao62 y152.length co62), (by first | rfl | (simp; done) | (simp [*]; done)), H', ⟨by have := HK1.out; have := HJ7.out; omega⟩, ⟨by (with_reducible repeat (first | apply Kd.V_alloc | apply Kd.V_drewN | apply Kd.V_drew)); exact Kd.V_mono (Kd.V_far (p := ⟨gb136, 0, none⟩) (Kd.V_mono HO_135000.out (fun k_ hk => (⟨hk, hk.1.2.2.2.1⟩ : _ ∧ k_ ≠ gb136))) (fun _ hk => hk.2) (.slice Ao62 y152.length co62)) (fun _ hk => ⟨hk.1.1.1, ⟨hk.1.2, ⟨hk.1.1.2.1, ⟨hk.1.1.2.2.1, hk.1.1.2.2.2.1⟩⟩⟩⟩)⟩, ⟨by (with_reducible repeat (first | apply Kd.N_alloc | apply Kd.N_drewN | apply Kd.N_drew)); exact Kd.N_mono (Kd.N_far (p := ⟨gb136, 0, none⟩) (Kd.N_mono HO154.out (fun k_ hk => (⟨hk, hk.2.2.2.1⟩ : _ ∧ k_ ≠ gb136))) (fun _ hk => hk.2) (.slice Ao62 y152.length co62)) (fun _ hk => ⟨hk.1.1, ⟨hk.1.2.1, ⟨hk.1.2.2.1, hk.1.2.2.2.1⟩⟩⟩)⟩, ⟨by (with_reducible repeat (first | refine blk_drewN ?_ _ | refine blk_drew ?_ | refine blk_alloc ?_ _)); refine blk_far ?_ NB134_136.out _; (with_reducible repeat (first | refine blk_drewN ?_ _ | refine blk_drew ?_ | refine blk_alloc ?_ _)); exact BK134.out⟩, ⟨by (with_reducible repeat (first | refine blk_drewN ?_ _ | refine blk_drew ?_ | refine blk_alloc ?_ _)); refine blk_far ?_ NB135_136.out _; (with_reducible repeat (first | refine blk_drewN ?_ _ | refine blk_drew ?_ | refine blk_alloc ?_ _)); exact BK135.out⟩, ⟨by (with_reducible repeat (first | refine blk_drewN ?_ _ | refine blk_drew ?_ | refine blk_alloc ?_ _)); refine blk_put (cs := #[u137000]) ?_ 0 _ rfl; (with_reducible repeat (first | refine blk_drewN ?_ _ | refine blk_drew ?_ | refine blk_alloc ?_ _)); exact BK136.out⟩, ⟨by repeat (first | (with_reducible first | exact HB.out | apply below_alloc | apply pw_below_drewN | apply below_drew1 | refine below_set ?_ GE134.out | refine below_set ?_ GE135.out | refine below_set ?_ GE136.out | refine below_set ?_ GE138.out) | exact HB.out)⟩⟩
                      · rw [if_neg c45] at H
                        exact absurd H (by simp)
                  · rw [if_neg c20] at H
                    exact absurd H (by simp)
                · rw [if_neg c19] at H
                  have c19b0 : decide (8 < (((rd_T60 l0_0 x4_1).f0).length : Int)) = false := decide_eq_false c19
                  have c19b1 : decide (8 < ((rd_T60 l0_0 x4_1).f0).length) = false := decide_eq_false (by omega)
                  clear c19
                  by_cases c64 : (((rd_T60 l0_0 x4_1).f1).length : Int) > 8
                  · rw [if_pos c64] at H
                    have c64b0 : decide (8 < (((rd_T60 l0_0 x4_1).f1).length : Int)) = true := decide_eq_true c64
                    have c64b1 : decide (8 < ((rd_T60 l0_0 x4_1).f1).length) = true := decide_eq_true (by omega)
                    clear c64
                    by_cases c65 : 8 ≤ (((rd_T60 l0_0 x4_1).f1).length : Int)
                    · rw [if_pos c65] at H
                      have c65b0 := eq_true c65
                      have c65b1 : decide (8 ≤ (((rd_T60 l0_0 x4_1).f1).length : Int)) = true := decide_eq_true c65
                      clear c65
                      obtain ⟨y155, hy155⟩ : ∃ y_ : List ByteArray, y_ = (((rd_T60 l0_0 x4_1).f1).take 8) := ⟨_, rfl⟩
                      replace H : (if x137000_1.length < 2932031007402 then (registrarlaw07_few.l0 kj7 (wrap64 (x4_1 + 1)) l0_0 (x137000_1 ++ [(⟨(rd_T60 l0_0 x4_1).f0, y155⟩ : S60)])) else (none)) = some r := by first | (rw [hy155]; with_reducible exact H) | (have H2_ := (Option.bind_some _ _).symm.trans H; rw [hy155]; with_reducible exact H2_) | (have H2_ := (Option.bind_some _ _).symm.trans H; with_reducible exact H2_) | with_reducible exact H | (rw [hy155]; exact H) | exact H
                      have Ny155 := Aside0.mk hy155
                      clear hy155
                      by_cases c66 : x137000_1.length < 2932031007402
                      · rw [if_pos c66] at H
                        have LMc66 := Aside0.mk c66
                        clear c66
                        obtain ⟨y160, hy160⟩ : ∃ y_ : List (S60), y_ = (x137000_1 ++ [(⟨(rd_T60 l0_0 x4_1).f0, y155⟩ : S60)]) := ⟨_, rfl⟩
                        replace H : (registrarlaw07_few.l0 kj7 (wrap64 (x4_1 + 1)) l0_0 y160) = some r := by first | (rw [hy160]; with_reducible exact H) | (have H2_ := (Option.bind_some _ _).symm.trans H; rw [hy160]; with_reducible exact H2_) | (have H2_ := (Option.bind_some _ _).symm.trans H; with_reducible exact H2_) | with_reducible exact H | (rw [hy160]; exact H) | exact H
                        have Ny160 := Aside0.mk hy160
                        clear hy160
                        have H' := Aside0.mk H
                        clear H
                        have hnb67 := NB134_135.out
                        have hnc67 := NB135_134.out
                        have hnb68 := NB134_136.out
                        have hnc68 := NB136_134.out
                        have hcz69_0 : wc.cell? ⟨gb134, 0, none⟩ = some (.slice A0_0 l0_0.length c0_0) := (blk_cell BK134.out 0).trans rfl
                        have hfz69_0 := blk_frozen BK134.out 0
                        have p137 : 0 ≤ (x4_1 : Int) := of_decide_eq_true (by first | (with_reducible assumption) | assumption)
                        have q137 : x4_1 < (l0_0.length : Int) := of_decide_eq_true (by first | (with_reducible assumption) | assumption)
                        obtain ⟨ad137, A137_0, c137_0, A137_1, c137_1, e137, hx137_0, hx137_1, hl137_0, hi137_0, hl137_1, hi137_1⟩ := at_T60 (Kd.V_reads' HO_135000.out).2.2 x4_1 p137 q137
                        cases e137
                        obtain ⟨ce137, hce137, hMe137, hcc137⟩ := Kd.V_get HO_135000.out z60 x4_1 p137 (by first | exact q137 | exact of_decide_eq_true (by first | (with_reducible assumption) | assumption) | (have e_ := (Kd.V_reads' HO_135000.out).1; omega))
                        obtain ⟨ua137_0, uc137_0, ua137_1, uc137_1, rfl, ul137_0, ge137_0, ul137_1, ge137_1⟩ := k60_openF hMe137
                        have hv137_0 := hcc137 0 _ rfl
                        rw [Nat.add_zero] at hv137_0
                        replace hv137_0 := Option.some.inj (hv137_0.symm.trans hx137_0)
                        injection hv137_0 with hva_ hvn_ hvc_
                        rw [hva_] at ge137_0
                        rw [hvc_] at ul137_0
                        have HL137_0 := Aside0.mk (show Kd.V Kd.string 9 _ w.heap.size _ _ ((rd_T60 l0_0 x4_1).f0) from Kd.V_mk ul137_0 ge137_0)
                        clear hva_ hvn_ hvc_ ge137_0 ul137_0
                        have hv137_1 := hcc137 1 _ rfl
                        rw [add_field _ _ 1 (by omega)] at hv137_1
                        replace hv137_1 := Option.some.inj (hv137_1.symm.trans hx137_1)
                        injection hv137_1 with hva_ hvn_ hvc_
                        rw [hva_] at ge137_1
                        rw [hvc_] at ul137_1
                        have HL137_1 := Aside0.mk (show Kd.V Kd.string 9 _ w.heap.size _ _ ((rd_T60 l0_0 x4_1).f1) from Kd.V_mk ul137_1 ge137_1)
                        clear hva_ hvn_ hvc_ ge137_1 ul137_1
                        clear hcc137 hce137
                        have HR137_0 := Aside0.mk hi137_0
                        have HC137_0 := Aside0.mk hl137_0
                        clear hi137_0 hl137_0
                        have HR137_1 := Aside0.mk hi137_1
                        have HC137_1 := Aside0.mk hl137_1
                        clear hi137_1 hl137_1
                        replace p137 := eq_true p137
                        replace q137 := eq_true q137
                        go_wp2_with (first | ((with_reducible refine gate_dst (N := 5) rfl ?_); refine box_event ?hg (N := 5) ?hd (cs := #[.slice none 0 0, .slice none 0 0]) (t := 60) ?hr ?_; (case hd => rfl); (case hg => rfl); (case hr => first | (go_simp; done) | (go_simp; rfl)); intro gb138 hg w70 hbox hb; have n0_ := Aside0.mk (Kd.V_below (Kd.V_elderB (by (with_reducible repeat (first | apply Kd.V_alloc | apply Kd.V_drewN | apply Kd.V_drew)); exact HO_135000.out) gb138 (Nat.le_of_eq hg.symm)) hb); have n1_ := Aside0.mk (Kd.N_below (Kd.N_elderB (by (with_reducible repeat (first | apply Kd.N_alloc | apply Kd.N_drewN | apply Kd.N_drew)); exact HO_137000.out) gb138 (Nat.le_of_eq hg.symm)) hb); have n2_ := Aside0.mk (Kd.V_below (Kd.V_elderB (by (with_reducible repeat (first | apply Kd.V_alloc | apply Kd.V_drewN | apply Kd.V_drew)); exact HL137_0.out) gb138 (Nat.le_of_eq hg.symm)) hb); have n3_ := Aside0.mk (Kd.V_below (Kd.V_elderB (by (with_reducible repeat (first | apply Kd.V_alloc | apply Kd.V_drewN | apply Kd.V_drew)); exact HL137_1.out) gb138 (Nat.le_of_eq hg.symm)) hb); have n4_ := Aside0.mk (blk_below (g := gb134) (o := .cells #[.slice (some ad137) l0_0.length c0_0] 25 (0, 0)) (by (with_reducible repeat (first | refine blk_drewN ?_ _ | refine blk_drew ?_ | refine blk_alloc ?_ _)); exact BK134.out) hb); have n5_ := Aside0.mk (blk_below (g := gb135) (o := .cells #[.slice none 0 0] 25 (0, 0)) (by (with_reducible repeat (first | refine blk_drewN ?_ _ | refine blk_drew ?_ | refine blk_alloc ?_ _)); exact BK135.out) hb); have n6_ := Aside0.mk (blk_below (g := gb136) (o := .cells #[u137000] 25 (0, 0)) (by (with_reducible repeat (first | refine blk_drewN ?_ _ | refine blk_drew ?_ | refine blk_alloc ?_ _)); exact BK136.out) hb); have n7_ := Aside0.mk (Kd.C_below (by repeat (first | (with_reducible exact HR137_0.out) | (with_reducible refine Kd.C_alloc ?_ _) | (with_reducible refine Kd.C_drewN ?_ _) | (with_reducible refine Kd.C_drew ?_) | exact HR137_0.out | exact (Kd.V_reads' HL137_0.out).2.2)) hb); have n8_ := Aside0.mk (Kd.C_below (by repeat (first | (with_reducible exact HR137_1.out) | (with_reducible refine Kd.C_alloc ?_ _) | (with_reducible refine Kd.C_drewN ?_ _) | (with_reducible refine Kd.C_drew ?_) | exact HR137_1.out | exact (Kd.V_reads' HL137_1.out).2.2)) hb); have n9_ := Aside0.mk (below_step (by repeat (first | (with_reducible first | exact HB.out | apply below_alloc | apply pw_below_drewN | apply below_drew1 | refine below_set ?_ GE134.out | refine below_set ?_ GE135.out | refine below_set ?_ GE136.out) | exact HB.out)) hb); have n10_ := Aside0.mk (hbox); have n11_ := Aside0.mk ((by rw [hg]; exact (below_size (by repeat (first | (with_reducible first | exact HB.out | apply below_alloc | apply pw_below_drewN | apply below_drew1 | refine below_set ?_ GE134.out | refine below_set ?_ GE135.out | refine below_set ?_ GE136.out) | exact HB.out))) : w.heap.size ≤ gb138)); have n12_ := Aside0.mk ((by rw [hg]; exact (below_size (by repeat (first | (with_reducible first | exact HB.out | apply below_alloc | apply pw_below_drewN | apply below_drew1 | refine below_set ?_ GE134.out | refine below_set ?_ GE135.out | refine below_set ?_ GE136.out) | exact HB.out))) : w.heap.size ≤ gb138)); have n13_ := Aside0.mk ((by rw [hg]; exact Nat.ne_of_lt (blk_lt (g := gb134) (o := .cells #[.slice (some ad137) l0_0.length c0_0] 25 (0, 0)) (by (with_reducible repeat (first | refine blk_drewN ?_ _ | refine blk_drew ?_ | refine blk_alloc ?_ _)); exact BK134.out)) : gb134 ≠ gb138)); have n14_ := Aside0.mk ((by rw [hg]; exact Nat.ne_of_gt (blk_lt (g := gb134) (o := .cells #[.slice (some ad137) l0_0.length c0_0] 25 (0, 0)) (by (with_reducible repeat (first | refine blk_drewN ?_ _ | refine blk_drew ?_ | refine blk_alloc ?_ _)); exact BK134.out)) : gb138 ≠ gb134)); have n15_ := Aside0.mk ((by rw [hg]; exact Nat.ne_of_lt (blk_lt (g := gb135) (o := .cells #[.slice none 0 0] 25 (0, 0)) (by (with_reducible repeat (first | refine blk_drewN ?_ _ | refine blk_drew ?_ | refine blk_alloc ?_ _)); exact BK135.out)) : gb135 ≠ gb138)); have n16_ := Aside0.mk ((by rw [hg]; exact Nat.ne_of_gt (blk_lt (g := gb135) (o := .cells #[.slice none 0 0] 25 (0, 0)) (by (with_reducible repeat (first | refine blk_drewN ?_ _ | refine blk_drew ?_ | refine blk_alloc ?_ _)); exact BK135.out)) : gb138 ≠ gb135)); have n17_ := Aside0.mk ((by rw [hg]; exact Nat.ne_of_lt (blk_lt (g := gb136) (o := .cells #[u137000] 25 (0, 0)) (by (with_reducible repeat (first | refine blk_drewN ?_ _ | refine blk_drew ?_ | refine blk_alloc ?_ _)); exact BK136.out)) : gb136 ≠ gb138)); have n18_ := Aside0.mk ((by rw [hg]; exact Nat.ne_of_gt (blk_lt (g := gb136) (o := .cells #[u137000] 25 (0, 0)) (by (with_reducible repeat (first | refine blk_drewN ?_ _ | refine blk_drew ?_ | refine blk_alloc ?_ _)); exact BK136.out)) : gb138 ≠ gb136)); clear HO_135000; clear HO_137000; clear HL137_0; clear HL137_1; clear BK134; clear BK135; clear BK136; clear HR137_0; clear HR137_1; clear HB; have HO_135000 := n0_; have HO_137000 := n1_; have HL137_0 := n2_; have HL137_1 := n3_; have BK134 := n4_; have BK135 := n5_; have BK136 := n6_; have HR137_0 := n7_; have HR137_1 := n8_; have HB := n9_; have BK138 := n10_; have GW138 := n11_; have GE138 := n12_; have NB134_138 := n13_; have NB138_134 := n14_; have NB135_138 := n15_; have NB138_135 := n16_; have NB136_138 := n17_; have NB138_136 := n18_; clear n0_ n1_ n2_ n3_ n4_ n5_ n6_ n7_ n8_ n9_ n10_ n11_ n12_ n13_ n14_ n15_ n16_ n17_ n18_; clear hb hbox hg; have hnb71 := NB138_134.out; have hnc71 := NB134_138.out; have hnb72 := NB138_135.out; have hnc72 := NB135_138.out; have hnb73 := NB138_136.out; have hnc73 := NB136_138.out; have hcz74_0 : w70.cell? ⟨gb138, 0, none⟩ = some (.slice none 0 0) := (blk_cell BK138.out 0).trans rfl; have hcz74_1 : w70.cell? ⟨gb138, 1, none⟩ = some (.slice none 0 0) := (blk_cell BK138.out 1).trans rfl; have hfz74_0 := blk_frozen BK138.out 0; have hfz74_1 := blk_frozen BK138.out 1) | ((with_reducible refine gate_store (t := 60) (p := 5) rfl ?_); refine store_event (t := 60) (p := 5) (v := ?vo_w75) (w1 := ((w70.setCell ⟨gb138, 0, none⟩ (.slice A137_0 ((rd_T60 l0_0 x4_1).f0).length c137_0)).setCell ⟨gb138, 1, none⟩ (.slice A137_1 ((rd_T60 l0_0 x4_1).f1).length c137_1))) ?hg ?ho ?hn ?hr ?_; (case ho => rfl); (case hg => rfl); (case hn => rfl); (case hr => first | (go_simp; done) | (go_simp; rfl)); intro w75 hw; have n0_ : Aside0 (Kd.V k60 60 w75 w.heap.size (fun k_ => (P0_0_ k_ ∨ w.heap.size ≤ k_) ∧ some k_ ≠ (u137000 : Value).ownBlock ∧ k_ ≠ gb134 ∧ k_ ≠ gb135 ∧ k_ ≠ gb136 ∧ k_ ≠ gb138) (.slice (some ad137) l0_0.length c0_0) l0_0) := ⟨(by rw [hw]; exact (by (with_reducible repeat (first | apply Kd.V_alloc | apply Kd.V_drewN | apply Kd.V_drew)); exact Kd.V_mono (Kd.V_far (p := ⟨gb138, 1, none⟩) (Kd.V_far (p := ⟨gb138, 0, none⟩) (Kd.V_mono HO_135000.out (fun k_ hk => (⟨hk, hk.2⟩ : _ ∧ k_ ≠ gb138))) (fun _ hk => hk.2) (.slice A137_0 ((rd_T60 l0_0 x4_1).f0).length c137_0)) (fun _ hk => hk.2) (.slice A137_1 ((rd_T60 l0_0 x4_1).f1).length c137_1)) (fun _ hk => ⟨hk.1.1.1, ⟨hk.1.1.2.1, ⟨hk.1.1.2.2.1, ⟨hk.1.1.2.2.2.1, ⟨hk.1.1.2.2.2.2, hk.1.2⟩⟩⟩⟩⟩)))⟩; have n1_ : Aside0 (Kd.N k60 60 w75 w.heap.size (fun k_ => (P0_0_ k_ ∨ w.heap.size ≤ k_) ∧ k_ ≠ gb134 ∧ k_ ≠ gb135 ∧ k_ ≠ gb136 ∧ k_ ≠ gb138) u137000 x137000_1) := ⟨(by rw [hw]; exact (by (with_reducible repeat (first | apply Kd.N_alloc | apply Kd.N_drewN | apply Kd.N_drew)); exact Kd.N_mono (Kd.N_far (p := ⟨gb138, 1, none⟩) (Kd.N_far (p := ⟨gb138, 0, none⟩) (Kd.N_mono HO_137000.out (fun k_ hk => (⟨hk, hk.2⟩ : _ ∧ k_ ≠ gb138))) (fun _ hk => hk.2) (.slice A137_0 ((rd_T60 l0_0 x4_1).f0).length c137_0)) (fun _ hk => hk.2) (.slice A137_1 ((rd_T60 l0_0 x4_1).f1).length c137_1)) (fun _ hk => ⟨hk.1.1.1, ⟨hk.1.1.2.1, ⟨hk.1.1.2.2.1, ⟨hk.1.1.2.2.2, hk.1.2⟩⟩⟩⟩)))⟩; have n2_ : Aside0 (Kd.V Kd.string 9 w75 w.heap.size (fun k_ => (P0_0_ k_ ∨ w.heap.size ≤ k_) ∧ some k_ ≠ (u137000 : Value).ownBlock ∧ k_ ≠ gb134 ∧ k_ ≠ gb135 ∧ k_ ≠ gb136 ∧ k_ ≠ gb138) (.slice A137_0 ((rd_T60 l0_0 x4_1).f0).length c137_0) ((rd_T60 l0_0 x4_1).f0)) := ⟨(by rw [hw]; exact (by (with_reducible repeat (first | apply Kd.V_alloc | apply Kd.V_drewN | apply Kd.V_drew)); exact Kd.V_mono (Kd.V_far (p := ⟨gb138, 1, none⟩) (Kd.V_far (p := ⟨gb138, 0, none⟩) (Kd.V_mono HL137_0.out (fun k_ hk => (⟨hk, hk.2⟩ : _ ∧ k_ ≠ gb138))) (fun _ hk => hk.2) (.slice A137_0 ((rd_T60 l0_0 x4_1).f0).length c137_0)) (fun _ hk => hk.2) (.slice A137_1 ((rd_T60 l0_0 x4_1).f1).length c137_1)) (fun _ hk => ⟨hk.1.1.1, ⟨hk.1.1.2.1, ⟨hk.1.1.2.2.1, ⟨hk.1.1.2.2.2.1, ⟨hk.1.1.2.2.2.2, hk.1.2⟩⟩⟩⟩⟩)))⟩; have n3_ : Aside0 (Kd.V Kd.string 9 w75 w.heap.size (fun k_ => (P0_0_ k_ ∨ w.heap.size ≤ k_) ∧ some k_ ≠ (u137000 : Value).ownBlock ∧ k_ ≠ gb134 ∧ k_ ≠ gb135 ∧ k_ ≠ gb136 ∧ k_ ≠ gb138) (.slice A137_1 ((rd_T60 l0_0 x4_1).f1).length c137_1) ((rd_T60 l0_0 x4_1).f1)) := ⟨(by rw [hw]; exact (by (with_reducible repeat (first | apply Kd.V_alloc | apply Kd.V_drewN | apply Kd.V_drew)); exact Kd.V_mono (Kd.V_far (p := ⟨gb138, 1, none⟩) (Kd.V_far (p := ⟨gb138, 0, none⟩) (Kd.V_mono HL137_1.out (fun k_ hk => (⟨hk, hk.2⟩ : _ ∧ k_ ≠ gb138))) (fun _ hk => hk.2) (.slice A137_0 ((rd_T60 l0_0 x4_1).f0).length c137_0)) (fun _ hk => hk.2) (.slice A137_1 ((rd_T60 l0_0 x4_1).f1).length c137_1)) (fun _ hk => ⟨hk.1.1.1, ⟨hk.1.1.2.1, ⟨hk.1.1.2.2.1, ⟨hk.1.1.2.2.2.1, ⟨hk.1.1.2.2.2.2, hk.1.2⟩⟩⟩⟩⟩)))⟩; have n4_ : Aside0 (w75.heap[gb134]? = some (.cells #[.slice (some ad137) l0_0.length c0_0] 25 (0, 0))) := ⟨(by rw [hw]; exact (by (with_reducible repeat (first | refine blk_drewN ?_ _ | refine blk_drew ?_ | refine blk_alloc ?_ _)); refine blk_far ?_ NB134_138.out _; (with_reducible repeat (first | refine blk_drewN ?_ _ | refine blk_drew ?_ | refine blk_alloc ?_ _)); refine blk_far ?_ NB134_138.out _; (with_reducible repeat (first | refine blk_drewN ?_ _ | refine blk_drew ?_ | refine blk_alloc ?_ _)); exact BK134.out))⟩; have n5_ : Aside0 (w75.heap[gb135]? = some (.cells #[.slice none 0 0] 25 (0, 0))) := ⟨(by rw [hw]; exact (by (with_reducible repeat (first | refine blk_drewN ?_ _ | refine blk_drew ?_ | refine blk_alloc ?_ _)); refine blk_far ?_ NB135_138.out _; (with_reducible repeat (first | refine blk_drewN ?_ _ | refine blk_drew ?_ | refine blk_alloc ?_ _)); refine blk_far ?_ NB135_138.out _; (with_reducible repeat (first | refine blk_drewN ?_ _ | refine blk_drew ?_ | refine blk_alloc ?_ _)); exact BK135.out))⟩; have n6_ : Aside0 (w75.heap[gb136]? = some (.cells #[u137000] 25 (0, 0))) := ⟨(by rw [hw]; exact (by (with_reducible repeat (first | refine blk_drewN ?_ _ | refine blk_drew ?_ | refine blk_alloc ?_ _)); refine blk_far ?_ NB136_138.out _; (with_reducible repeat (first | refine blk_drewN ?_ _ | refine blk_drew ?_ | refine blk_alloc ?_ _)); refine blk_far ?_ NB136_138.out _; (with_reducible repeat (first | refine blk_drewN ?_ _ | refine blk_drew ?_ | refine blk_alloc ?_ _)); exact BK136.out))⟩; have n7_ : Aside0 (w75.heap[gb138]? = some (.cells #[.slice A137_0 ((rd_T60 l0_0 x4_1).f0).length c137_0, .slice A137_1 ((rd_T60 l0_0 x4_1).f1).length c137_1] 60 (0, 0))) := ⟨(by rw [hw]; exact (by (with_reducible repeat (first | refine blk_drewN ?_ _ | refine blk_drew ?_ | refine blk_alloc ?_ _)); refine blk_put (cs := #[.slice A137_0 ((rd_T60 l0_0 x4_1).f0).length c137_0, .slice none 0 0]) ?_ 1 _ rfl; (with_reducible repeat (first | refine blk_drewN ?_ _ | refine blk_drew ?_ | refine blk_alloc ?_ _)); refine blk_put (cs := #[.slice none 0 0, .slice none 0 0]) ?_ 0 _ rfl; (with_reducible repeat (first | refine blk_drewN ?_ _ | refine blk_drew ?_ | refine blk_alloc ?_ _)); exact BK138.out))⟩; have n8_ : Aside0 (Below w.heap.size w w75) := ⟨(by rw [hw]; exact (by repeat (first | (with_reducible first | exact HB.out | apply below_alloc | apply pw_below_drewN | apply below_drew1 | refine below_set ?_ GE134.out | refine below_set ?_ GE135.out | refine below_set ?_ GE136.out | refine below_set ?_ GE138.out) | exact HB.out)))⟩; clear hw; clear HO_135000; clear HO_137000; clear HL137_0; clear HL137_1; clear BK134; clear BK135; clear BK136; clear BK138; clear HB; have HO_135000 := n0_; have HO_137000 := n1_; have HL137_0 := n2_; have HL137_1 := n3_; have BK134 := n4_; have BK135 := n5_; have BK136 := n6_; have BK138 := n7_; have HB := n8_; clear n0_ n1_ n2_ n3_ n4_ n5_ n6_ n7_ n8_; have hcz76_0 : w75.cell? ⟨gb138, 0, none⟩ = some (.slice A137_0 ((rd_T60 l0_0 x4_1).f0).length c137_0) := (blk_cell BK138.out 0).trans rfl; have hcz76_1 : w75.cell? ⟨gb138, 1, none⟩ = some (.slice A137_1 ((rd_T60 l0_0 x4_1).f1).length c137_1) := (blk_cell BK138.out 1).trans rfl; have hfz76_0 := blk_frozen BK138.out 0; have hfz76_1 := blk_frozen BK138.out 1; have q77 : (8 : Int) ≤ ((((rd_T60 l0_0 x4_1).f1).length : Int) : Int) := of_decide_eq_true (by first | (with_reducible assumption) | assumption); obtain ⟨i077, hi077, _, hsz77, _⟩ := info_parts info9; have hroom77 : ((rd_T60 l0_0 x4_1).f1).length ≤ c137_1 := HC137_1.out; have hC77 : Kd.F Kd.string _ _ A137_1 ((rd_T60 l0_0 x4_1).f1).length ((rd_T60 l0_0 x4_1).f1) := (Kd.V_at (base := w.heap.size) HL137_1.out).2.2; have hcut77 := cut_to (P := Try.prog) 58 9 .i64 Try.underlying58 hi077 A137_1 ((rd_T60 l0_0 x4_1).f1).length c137_1 8 (by omega) q77 hroom77; have hr77 := Kd.F_take (m := 8) hC77 (by omega); have hy77 : y155.length = (8 : Int).toNat := (by rw [Ny155.out, List.length_take]; omega); rw [← Ny155.out] at hr77; rw [← hy77] at hcut77; have HO159 := Aside0.mk (show Kd.V Kd.string 9 _ w.heap.size _ (.slice A137_1 y155.length c137_1) y155 from Kd.V_mk (by omega) hr77); have HC159 := Aside0.mk (show y155.length ≤ c137_1 from by omega); clear hr77 hC77 hroom77 hi077 hsz77; have KY77 := Aside0.mk hy77; clear hy77; replace q77 := eq_true q77) | ((with_reducible refine gate_store (t := 58) (p := 38) rfl ?_); refine store_event (t := 58) (p := 38) (v := ?vo_w78) (w1 := (w75.setCell ⟨gb138, 1, none⟩ (.slice A137_1 y155.length c137_1))) ?hg ?ho ?hn ?hr ?_; (case ho => rfl); (case hg => rfl); (case hn => rfl); (case hr => first | (go_simp; done) | (go_simp; rfl)); intro w78 hw; have n0_ : Aside0 (Kd.V k60 60 w78 w.heap.size (fun k_ => (P0_0_ k_ ∨ w.heap.size ≤ k_) ∧ some k_ ≠ (u137000 : Value).ownBlock ∧ k_ ≠ gb134 ∧ k_ ≠ gb135 ∧ k_ ≠ gb136 ∧ k_ ≠ gb138) (.slice (some ad137) l0_0.length c0_0) l0_0) := ⟨(by rw [hw]; exact (by (with_reducible repeat (first | apply Kd.V_alloc | apply Kd.V_drewN | apply Kd.V_drew)); exact Kd.V_mono (Kd.V_far (p := ⟨gb138, 1, none⟩) (Kd.V_mono HO_135000.out (fun k_ hk => (⟨hk, hk.2.2.2.2.2⟩ : _ ∧ k_ ≠ gb138))) (fun _ hk => hk.2) (.slice A137_1 y155.length c137_1)) (fun _ hk => ⟨hk.1.1, ⟨hk.1.2.1, ⟨hk.1.2.2.1, ⟨hk.1.2.2.2.1, ⟨hk.1.2.2.2.2.1, hk.1.2.2.2.2.2⟩⟩⟩⟩⟩)))⟩; have n1_ : Aside0 (Kd.N k60 60 w78 w.heap.size (fun k_ => (P0_0_ k_ ∨ w.heap.size ≤ k_) ∧ k_ ≠ gb134 ∧ k_ ≠ gb135 ∧ k_ ≠ gb136 ∧ k_ ≠ gb138) u137000 x137000_1) := ⟨(by rw [hw]; exact (by (with_reducible repeat (first | apply Kd.N_alloc | apply Kd.N_drewN | apply Kd.N_drew)); exact Kd.N_mono (Kd.N_far (p := ⟨gb138, 1, none⟩) (Kd.N_mono HO_137000.out (fun k_ hk => (⟨hk, hk.2.2.2.2⟩ : _ ∧ k_ ≠ gb138))) (fun _ hk => hk.2) (.slice A137_1 y155.length c137_1)) (fun _ hk => ⟨hk.1.1, ⟨hk.1.2.1, ⟨hk.1.2.2.1, ⟨hk.1.2.2.2.1, hk.1.2.2.2.2⟩⟩⟩⟩)))⟩; have n2_ : Aside0 (Kd.V Kd.string 9 w78 w.heap.size (fun k_ => (P0_0_ k_ ∨ w.heap.size ≤ k_) ∧ some k_ ≠ (u137000 : Value).ownBlock ∧ k_ ≠ gb134 ∧ k_ ≠ gb135 ∧ k_ ≠ gb136 ∧ k_ ≠ gb138) (.slice A137_0 ((rd_T60 l0_0 x4_1).f0).length c137_0) ((rd_T60 l0_0 x4_1).f0)) := ⟨(by rw [hw]; exact (by (with_reducible repeat (first | apply Kd.V_alloc | apply Kd.V_drewN | apply Kd.V_drew)); exact Kd.V_mono (Kd.V_far (p := ⟨gb138, 1, none⟩) (Kd.V_mono HL137_0.out (fun k_ hk => (⟨hk, hk.2.2.2.2.2⟩ : _ ∧ k_ ≠ gb138))) (fun _ hk => hk.2) (.slice A137_1 y155.length c137_1)) (fun _ hk => ⟨hk.1.1, ⟨hk.1.2.1, ⟨hk.1.2.2.1, ⟨hk.1.2.2.2.1, ⟨hk.1.2.2.2.2.1, hk.1.2.2.2.2.2⟩⟩⟩⟩⟩)))⟩; have n3_ : Aside0 (Kd.V Kd.string 9 w78 w.heap.size (fun k_ => (P0_0_ k_ ∨ w.heap.size ≤ k_) ∧ some k_ ≠ (u137000 : Value).ownBlock ∧ k_ ≠ gb134 ∧ k_ ≠ gb135 ∧ k_ ≠ gb136 ∧ k_ ≠ gb138) (.slice A137_1 ((rd_T60 l0_0 x4_1).f1).length c137_1) ((rd_T60 l0_0 x4_1).f1)) := ⟨(by rw [hw]; exact (by (with_reducible repeat (first | apply Kd.V_alloc | apply Kd.V_drewN | apply Kd.V_drew)); exact Kd.V_mono (Kd.V_far (p := ⟨gb138, 1, none⟩) (Kd.V_mono HL137_1.out (fun k_ hk => (⟨hk, hk.2.2.2.2.2⟩ : _ ∧ k_ ≠ gb138))) (fun _ hk => hk.2) (.slice A137_1 y155.length c137_1)) (fun _ hk => ⟨hk.1.1, ⟨hk.1.2.1, ⟨hk.1.2.2.1, ⟨hk.1.2.2.2.1, ⟨hk.1.2.2.2.2.1, hk.1.2.2.2.2.2⟩⟩⟩⟩⟩)))⟩; have n4_ : Aside0 (Kd.V Kd.string 9 w78 w.heap.size (fun k_ => (P0_0_ k_ ∨ w.heap.size ≤ k_) ∧ some k_ ≠ (u137000 : Value).ownBlock ∧ k_ ≠ gb134 ∧ k_ ≠ gb135 ∧ k_ ≠ gb136 ∧ k_ ≠ gb138) (.slice A137_1 y155.length c137_1) y155) := ⟨(by rw [hw]; exact (by (with_reducible repeat (first | apply Kd.V_alloc | apply Kd.V_drewN | apply Kd.V_drew)); exact Kd.V_mono (Kd.V_far (p := ⟨gb138, 1, none⟩) (Kd.V_mono HO159.out (fun k_ hk => (⟨hk, hk.2.2.2.2.2⟩ : _ ∧ k_ ≠ gb138))) (fun _ hk => hk.2) (.slice A137_1 y155.length c137_1)) (fun _ hk => ⟨hk.1.1, ⟨hk.1.2.1, ⟨hk.1.2.2.1, ⟨hk.1.2.2.2.1, ⟨hk.1.2.2.2.2.1, hk.1.2.2.2.2.2⟩⟩⟩⟩⟩)))⟩; have n5_ : Aside0 (w78.heap[gb134]? = some (.cells #[.slice (some ad137) l0_0.length c0_0] 25 (0, 0))) := ⟨(by rw [hw]; exact (by (with_reducible repeat (first | refine blk_drewN ?_ _ | refine blk_drew ?_ | refine blk_alloc ?_ _)); refine blk_far ?_ NB134_138.out _; (with_reducible repeat (first | refine blk_drewN ?_ _ | refine blk_drew ?_ | refine blk_alloc ?_ _)); exact BK134.out))⟩; have n6_ : Aside0 (w78.heap[gb135]? = some (.cells #[.slice none 0 0] 25 (0, 0))) := ⟨(by rw [hw]; exact (by (with_reducible repeat (first | refine blk_drewN ?_ _ | refine blk_drew ?_ | refine blk_alloc ?_ _)); refine blk_far ?_ NB135_138.out _; (with_reducible repeat (first | refine blk_drewN ?_ _ | refine blk_drew ?_ | refine blk_alloc ?_ _)); exact BK135.out))⟩; have n7_ : Aside0 (w78.heap[gb136]? = some (.cells #[u137000] 25 (0, 0))) := ⟨(by rw [hw]; exact (by (with_reducible repeat (first | refine blk_drewN ?_ _ | refine blk_drew ?_ | refine blk_alloc ?_ _)); refine blk_far ?_ NB136_138.out _; (with_reducible repeat (first | refine blk_drewN ?_ _ | refine blk_drew ?_ | refine blk_alloc ?_ _)); exact BK136.out))⟩; have n8_ : Aside0 (w78.heap[gb138]? = some (.cells #[.slice A137_0 ((rd_T60 l0_0 x4_1).f0).length c137_0, .slice A137_1 y155.length c137_1] 60 (0, 0))) := ⟨(by rw [hw]; exact (by (with_reducible repeat (first | refine blk_drewN ?_ _ | refine blk_drew ?_ | refine blk_alloc ?_ _)); refine blk_put (cs := #[.slice A137_0 ((rd_T60 l0_0 x4_1).f0).length c137_0, .slice A137_1 ((rd_T60 l0_0 x4_1).f1).length c137_1]) ?_ 1 _ rfl; (with_reducible repeat (first | refine blk_drewN ?_ _ | refine blk_drew ?_ | refine blk_alloc ?_ _)); exact BK138.out))⟩; have n9_ : Aside0 (Below w.heap.size w w78) := ⟨(by rw [hw]; exact (by repeat (first | (with_reducible first | exact HB.out | apply below_alloc | apply pw_below_drewN | apply below_drew1 | refine below_set ?_ GE134.out | refine below_set ?_ GE135.out | refine below_set ?_ GE136.out | refine below_set ?_ GE138.out) | exact HB.out)))⟩; clear hw; clear HO_135000; clear HO_137000; clear HL137_0; clear HL137_1; clear HO159; clear BK134; clear BK135; clear BK136; clear BK138; clear HB; have HO_135000 := n0_; have HO_137000 := n1_; have HL137_0 := n2_; have HL137_1 := n3_; have HO159 := n4_; have BK134 := n5_; have BK135 := n6_; have BK136 := n7_; have BK138 := n8_; have HB := n9_; clear n0_ n1_ n2_ n3_ n4_ n5_ n6_ n7_ n8_ n9_; have hnb79 := NB136_135.out; have hnc79 := NB135_136.out; have hcz80_0 : w78.cell? ⟨gb136, 0, none⟩ = some (u137000) := (blk_cell BK136.out 0).trans rfl; have hfz80_0 := blk_frozen BK136.out 0; have hcz81_0 : w78.cell? ⟨gb138, 0, none⟩ = some (.slice A137_0 ((rd_T60 l0_0 x4_1).f0).length c137_0) := (blk_cell BK138.out 0).trans rfl; have hcz81_1 : w78.cell? ⟨gb138, 1, none⟩ = some (.slice A137_1 y155.length c137_1) := (blk_cell BK138.out 1).trans rfl; have hfz81_0 := blk_frozen BK138.out 0; have hfz81_1 := blk_frozen BK138.out 1) | ((with_reducible refine gate_builtin (b := .append) (xs := #[.tmp 40, .tmp 42]) rfl ?_); at_builtin; refine Kd.N_append k60 (w0 := w) w.heap.size rfl (.tmp 40) (.tmp 42) 23 60 (.agg #[(.slice none 0 0), (.slice none 0 0)]) 48 rfl Try.underlying23 info60 rfl (by decide) (by omega) u137000 x137000_1 (⟨(rd_T60 l0_0 x4_1).f0, y155⟩ : S60) [.slice A137_0 ((rd_T60 l0_0 x4_1).f0).length c137_0, .slice A137_1 y155.length c137_1] (fun k_ => (P0_0_ k_ ∨ w.heap.size ≤ k_) ∧ k_ ≠ gb134 ∧ k_ ≠ gb135 ∧ k_ ≠ gb136 ∧ k_ ≠ gb138) (fun k_ => ((fun k_ => (P0_0_ k_ ∨ w.heap.size ≤ k_) ∧ k_ ≠ gb134 ∧ k_ ≠ gb135 ∧ k_ ≠ gb136 ∧ k_ ≠ gb138)) k_ ∧ some k_ ≠ (u137000 : Value).ownBlock) rfl rfl ?aP (fun _ hk => hk) ?aF ?aO ?aB ?aS ?aL ?_; (case aP => exact (k60_mkF _ _ (⟨(rd_T60 l0_0 x4_1).f0, y155⟩ : S60) (Kd.V_reads' (Kd.V_mono (ok' := (fun k_ => ((fun k_ => (P0_0_ k_ ∨ w.heap.size ≤ k_) ∧ k_ ≠ gb134 ∧ k_ ≠ gb135 ∧ k_ ≠ gb136 ∧ k_ ≠ gb138)) k_ ∧ some k_ ≠ (u137000 : Value).ownBlock)) (HL137_0.out) (fun k_ hk => ⟨⟨hk.1, ⟨hk.2.2.1, ⟨hk.2.2.2.1, ⟨hk.2.2.2.2.1, hk.2.2.2.2.2⟩⟩⟩⟩, hk.2.1⟩))).2.1 (Kd.V_F (Kd.V_mono (ok' := (fun k_ => ((fun k_ => (P0_0_ k_ ∨ w.heap.size ≤ k_) ∧ k_ ≠ gb134 ∧ k_ ≠ gb135 ∧ k_ ≠ gb136 ∧ k_ ≠ gb138)) k_ ∧ some k_ ≠ (u137000 : Value).ownBlock)) (HL137_0.out) (fun k_ hk => ⟨⟨hk.1, ⟨hk.2.2.1, ⟨hk.2.2.2.1, ⟨hk.2.2.2.2.1, hk.2.2.2.2.2⟩⟩⟩⟩, hk.2.1⟩))) (Kd.V_reads' (Kd.V_mono (ok' := (fun k_ => ((fun k_ => (P0_0_ k_ ∨ w.heap.size ≤ k_) ∧ k_ ≠ gb134 ∧ k_ ≠ gb135 ∧ k_ ≠ gb136 ∧ k_ ≠ gb138)) k_ ∧ some k_ ≠ (u137000 : Value).ownBlock)) (HO159.out) (fun k_ hk => ⟨⟨hk.1, ⟨hk.2.2.1, ⟨hk.2.2.2.1, ⟨hk.2.2.2.2.1, hk.2.2.2.2.2⟩⟩⟩⟩, hk.2.1⟩))).2.1 (Kd.V_F (Kd.V_mono (ok' := (fun k_ => ((fun k_ => (P0_0_ k_ ∨ w.heap.size ≤ k_) ∧ k_ ≠ gb134 ∧ k_ ≠ gb135 ∧ k_ ≠ gb136 ∧ k_ ≠ gb138)) k_ ∧ some k_ ≠ (u137000 : Value).ownBlock)) (HO159.out) (fun k_ hk => ⟨⟨hk.1, ⟨hk.2.2.1, ⟨hk.2.2.2.1, ⟨hk.2.2.2.2.1, hk.2.2.2.2.2⟩⟩⟩⟩, hk.2.1⟩))))); (case aB => exact (by repeat (first | (with_reducible first | exact HB.out | apply below_alloc | apply pw_below_drewN | apply below_drew1 | refine below_set ?_ GE134.out | refine below_set ?_ GE135.out | refine below_set ?_ GE136.out | refine below_set ?_ GE138.out) | exact HB.out))); (case aF => exact (fun k_ hk => ⟨(.inr (Nat.le_trans (below_size (by repeat (first | (with_reducible first | exact HB.out | apply below_alloc | apply pw_below_drewN | apply below_drew1 | refine below_set ?_ GE134.out | refine below_set ?_ GE135.out | refine below_set ?_ GE136.out | refine below_set ?_ GE138.out) | exact HB.out))) hk)), Kd.freshB (g := gb134) (o := .cells #[.slice (some ad137) l0_0.length c0_0] 25 (0, 0)) (by (with_reducible repeat (first | refine blk_drewN ?_ _ | refine blk_drew ?_ | refine blk_alloc ?_ _)); exact BK134.out) k_ hk, Kd.freshB (g := gb135) (o := .cells #[.slice none 0 0] 25 (0, 0)) (by (with_reducible repeat (first | refine blk_drewN ?_ _ | refine blk_drew ?_ | refine blk_alloc ?_ _)); exact BK135.out) k_ hk, Kd.freshB (g := gb136) (o := .cells #[u137000] 25 (0, 0)) (by (with_reducible repeat (first | refine blk_drewN ?_ _ | refine blk_drew ?_ | refine blk_alloc ?_ _)); exact BK136.out) k_ hk, Kd.freshB (g := gb138) (o := .cells #[.slice A137_0 ((rd_T60 l0_0 x4_1).f0).length c137_0, .slice A137_1 y155.length c137_1] 60 (0, 0)) (by (with_reducible repeat (first | refine blk_drewN ?_ _ | refine blk_drew ?_ | refine blk_alloc ?_ _)); exact BK138.out) k_ hk⟩)); (case aO => exact (by (with_reducible repeat (first | apply Kd.N_alloc | apply Kd.N_drewN | apply Kd.N_drew)); exact HO_137000.out)); (case aS => exact (below_size (by repeat (first | (with_reducible first | exact HB.out | apply below_alloc | apply pw_below_drewN | apply below_drew1 | refine below_set ?_ GE134.out | refine below_set ?_ GE135.out | refine below_set ?_ GE136.out | refine below_set ?_ GE138.out) | exact HB.out)))); (case aL => have := LMc66.out; omega); intro v161 w82 ho hb hg hat; rw [← Ny160.out] at ho; have n0_ := Aside0.mk (Kd.V_afterv (ok := (fun k_ => (P0_0_ k_ ∨ w.heap.size ≤ k_) ∧ k_ ≠ gb134 ∧ k_ ≠ gb135 ∧ k_ ≠ gb136 ∧ k_ ≠ gb138)) (by (with_reducible repeat (first | apply Kd.V_alloc | apply Kd.V_drewN | apply Kd.V_drew)); exact Kd.V_mono HO_135000.out (fun _ hk => ⟨⟨hk.1, ⟨hk.2.2.1, ⟨hk.2.2.2.1, ⟨hk.2.2.2.2.1, hk.2.2.2.2.2⟩⟩⟩⟩, hk.2.1⟩)) hg hat); have n1_ := Aside0.mk (blk_grown (g := gb134) (o := .cells #[.slice (some ad137) l0_0.length c0_0] 25 (0, 0)) (by (with_reducible repeat (first | refine blk_drewN ?_ _ | refine blk_drew ?_ | refine blk_alloc ?_ _)); exact BK134.out) hg (Kd.N_ne HO_137000.out BK134.out (by decide))); have n2_ := Aside0.mk (blk_grown (g := gb135) (o := .cells #[.slice none 0 0] 25 (0, 0)) (by (with_reducible repeat (first | refine blk_drewN ?_ _ | refine blk_drew ?_ | refine blk_alloc ?_ _)); exact BK135.out) hg (Kd.N_ne HO_137000.out BK135.out (by decide))); have n3_ := Aside0.mk (blk_grown (g := gb136) (o := .cells #[u137000] 25 (0, 0)) (by (with_reducible repeat (first | refine blk_drewN ?_ _ | refine blk_drew ?_ | refine blk_alloc ?_ _)); exact BK136.out) hg (Kd.N_ne HO_137000.out BK136.out (by decide))); have n4_ := Aside0.mk (Kd.V_afterv (ok := (fun k_ => (P0_0_ k_ ∨ w.heap.size ≤ k_) ∧ k_ ≠ gb134 ∧ k_ ≠ gb135 ∧ k_ ≠ gb136 ∧ k_ ≠ gb138)) (by (with_reducible repeat (first | apply Kd.V_alloc | apply Kd.V_drewN | apply Kd.V_drew)); exact Kd.V_mono HL137_0.out (fun _ hk => ⟨⟨hk.1, ⟨hk.2.2.1, ⟨hk.2.2.2.1, ⟨hk.2.2.2.2.1, hk.2.2.2.2.2⟩⟩⟩⟩, hk.2.1⟩)) hg hat); have n5_ := Aside0.mk (Kd.V_afterv (ok := (fun k_ => (P0_0_ k_ ∨ w.heap.size ≤ k_) ∧ k_ ≠ gb134 ∧ k_ ≠ gb135 ∧ k_ ≠ gb136 ∧ k_ ≠ gb138)) (by (with_reducible repeat (first | apply Kd.V_alloc | apply Kd.V_drewN | apply Kd.V_drew)); exact Kd.V_mono HL137_1.out (fun _ hk => ⟨⟨hk.1, ⟨hk.2.2.1, ⟨hk.2.2.2.1, ⟨hk.2.2.2.2.1, hk.2.2.2.2.2⟩⟩⟩⟩, hk.2.1⟩)) hg hat); have n6_ := Aside0.mk (blk_grown (g := gb138) (o := .cells #[.slice A137_0 ((rd_T60 l0_0 x4_1).f0).length c137_0, .slice A137_1 y155.length c137_1] 60 (0, 0)) (by (with_reducible repeat (first | refine blk_drewN ?_ _ | refine blk_drew ?_ | refine blk_alloc ?_ _)); exact BK138.out) hg (Kd.N_away HO_137000.out (fun _ hk => hk.2.2.2.2))); have n7_ := Aside0.mk (Kd.V_afterv (ok := (fun k_ => (P0_0_ k_ ∨ w.heap.size ≤ k_) ∧ k_ ≠ gb134 ∧ k_ ≠ gb135 ∧ k_ ≠ gb136 ∧ k_ ≠ gb138)) (by (with_reducible repeat (first | apply Kd.V_alloc | apply Kd.V_drewN | apply Kd.V_drew)); exact Kd.V_mono HO159.out (fun _ hk => ⟨⟨hk.1, ⟨hk.2.2.1, ⟨hk.2.2.2.1, ⟨hk.2.2.2.2.1, hk.2.2.2.2.2⟩⟩⟩⟩, hk.2.1⟩)) hg hat); have n8_ := Aside0.mk (hb); have n9_ := Aside0.mk (ho); clear HO_135000; clear BK134; clear BK135; clear BK136; clear HL137_0; clear HL137_1; clear BK138; clear HO159; clear HB; clear HO_137000; have HO_135000 := n0_; have BK134 := n1_; have BK135 := n2_; have BK136 := n3_; have HL137_0 := n4_; have HL137_1 := n5_; have BK138 := n6_; have HO159 := n7_; have HB := n8_; have HO162 := n9_; clear n0_ n1_ n2_ n3_ n4_ n5_ n6_ n7_ n8_ n9_; clear ho hb hg hat; obtain ⟨Ao83, co83, eo83⟩ := Kd.N_slice HO162.out; subst eo83; have hcz84_0 : w82.cell? ⟨gb136, 0, none⟩ = some (u137000) := (blk_cell BK136.out 0).trans rfl; have hfz84_0 := blk_frozen BK136.out 0))
                        go_roundg kj7
                        case measure => have := HK1.out; have := HJ7.out; omega
                        case rel => exact ⟨(wrap64 (x4_1 + 1)), (y160), (.slice Ao83 y160.length co83), (by first | rfl | (simp; done) | (simp [*]; done)), H', ⟨by have := HK1.out; have := HJ7.out; omega⟩, ⟨by (with_reducible repeat (first | apply Kd.V_alloc | apply Kd.V_drewN | apply Kd.V_drew)); exact Kd.V_mono (Kd.V_far (p := ⟨gb136, 0, none⟩) (Kd.V_mono HO_135000.out (fun k_ hk => (⟨hk, hk.1.2.2.2.1⟩ : _ ∧ k_ ≠ gb136))) (fun _ hk => hk.2) (.slice Ao83 y160.length co83)) (fun _ hk => ⟨hk.1.1.1, ⟨hk.1.2, ⟨hk.1.1.2.1, ⟨hk.1.1.2.2.1, hk.1.1.2.2.2.1⟩⟩⟩⟩)⟩, ⟨by (with_reducible repeat (first | apply Kd.N_alloc | apply Kd.N_drewN | apply Kd.N_drew)); exact Kd.N_mono (Kd.N_far (p := ⟨gb136, 0, none⟩) (Kd.N_mono HO162.out (fun k_ hk => (⟨hk, hk.2.2.2.1⟩ : _ ∧ k_ ≠ gb136))) (fun _ hk => hk.2) (.slice Ao83 y160.length co83)) (fun _ hk => ⟨hk.1.1, ⟨hk.1.2.1, ⟨hk.1.2.2.1, hk.1.2.2.2.1⟩⟩⟩)⟩, ⟨by (with_reducible repeat (first | refine blk_drewN ?_ _ | refine blk_drew ?_ | refine blk_alloc ?_ _)); refine blk_far ?_ NB134_136.out _; (with_reducible repeat (first | refine blk_drewN ?_ _ | refine blk_drew ?_ | refine blk_alloc ?_ _)); exact BK134.out⟩, ⟨by (with_reducible repeat (first | refine blk_drewN ?_ _ | refine blk_drew ?_ | refine blk_alloc ?_ _)); refine blk_far ?_ NB135_136.out _; (with_reducible repeat (first | refine blk_drewN ?_ _ | refine blk_drew ?_ | refine blk_alloc ?_ _)); exact BK135.out⟩, ⟨by (with_reducible repeat (first | refine blk_drewN ?_ _ | refine blk_drew ?_ | refine blk_alloc ?_ _)); refine blk_put (cs := #[u137000]) ?_ 0 _ rfl; (with_reducible repeat (first | refine blk_drewN ?_ _ | refine blk_drew ?_ | refine blk_alloc ?_ _)); exact BK136.out⟩, ⟨by repeat (first | (with_reducible first | exact HB.out | apply below_alloc | apply pw_below_drewN | apply below_drew1 | refine below_set ?_ GE134.out | refine below_set ?_ GE135.out | refine below_set ?_ GE136.out | refine below_set ?_ GE138.out) | exact HB.out)⟩⟩
                      · rw [if_neg c66] at H
                        exact absurd H (by simp)
                    · rw [if_neg c65] at H
                      exact absurd H (by simp)
                  · rw [if_neg c64] at H
                    have c64b0 : decide (8 < (((rd_T60 l0_0 x4_1).f1).length : Int)) = false := decide_eq_false c64
                    have c64b1 : decide (8 < ((rd_T60 l0_0 x4_1).f1).length) = false := decide_eq_false (by omega)
                    clear c64
                    by_cases c85 : x137000_1.length < 2932031007402
                    · rw [if_pos c85] at H
                      have LMc85 := Aside0.mk c85
                      clear c85
                      obtain ⟨y163, hy163⟩ : ∃ y_ : List (S60), y_ = (x137000_1 ++ [(⟨(rd_T60 l0_0 x4_1).f0, (rd_T60 l0_0 x4_1).f1⟩ : S60)]) := ⟨_, rfl⟩
                      replace H : (registrarlaw07_few.l0 kj7 (wrap64 (x4_1 + 1)) l0_0 y163) = some r := by first | (rw [hy163]; with_reducible exact H) | (have H2_ := (Option.bind_some _ _).symm.trans H; rw [hy163]; with_reducible exact H2_) | (have H2_ := (Option.bind_some _ _).symm.trans H; with_reducible exact H2_) | with_reducible exact H | (rw [hy163]; exact H) | exact H
                      have Ny163 := Aside0.mk hy163
                      clear hy163
                      have H' := Aside0.mk H
                      clear H
                      have hnb86 := NB134_135.out
                      have hnc86 := NB135_134.out
                      have hnb87 := NB134_136.out
                      have hnc87 := NB136_134.out
                      have hcz88_0 : wc.cell? ⟨gb134, 0, none⟩ = some (.slice A0_0 l0_0.length c0_0) := (blk_cell BK134.out 0).trans rfl
                      have hfz88_0 := blk_frozen BK134.out 0
                      have p137 : 0 ≤ (x4_1 : Int) := of_decide_eq_true (by first | (with_reducible assumption) | assumption)
                      have q137 : x4_1 < (l0_0.length : Int) := of_decide_eq_true (by first | (with_reducible assumption) | assumption)
                      obtain ⟨ad137, A137_0, c137_0, A137_1, c137_1, e137, hx137_0, hx137_1, hl137_0, hi137_0, hl137_1, hi137_1⟩ := at_T60 (Kd.V_reads' HO_135000.out).2.2 x4_1 p137 q137
                      cases e137
                      obtain ⟨ce137, hce137, hMe137, hcc137⟩ := Kd.V_get HO_135000.out z60 x4_1 p137 (by first | exact q137 | exact of_decide_eq_true (by first | (with_reducible assumption) | assumption) | (have e_ := (Kd.V_reads' HO_135000.out).1; omega))
                      obtain ⟨ua137_0, uc137_0, ua137_1, uc137_1, rfl, ul137_0, ge137_0, ul137_1, ge137_1⟩ := k60_openF hMe137
                      have hv137_0 := hcc137 0 _ rfl
                      rw [Nat.add_zero] at hv137_0
                      replace hv137_0 := Option.some.inj (hv137_0.symm.trans hx137_0)
                      injection hv137_0 with hva_ hvn_ hvc_
                      rw [hva_] at ge137_0
                      rw [hvc_] at ul137_0
                      have HL137_0 := Aside0.mk (show Kd.V Kd.string 9 _ w.heap.size _ _ ((rd_T60 l0_0 x4_1).f0) from Kd.V_mk ul137_0 ge137_0)
                      clear hva_ hvn_ hvc_ ge137_0 ul137_0
                      have hv137_1 := hcc137 1 _ rfl
                      rw [add_field _ _ 1 (by omega)] at hv137_1
                      replace hv137_1 := Option.some.inj (hv137_1.symm.trans hx137_1)
                      injection hv137_1 with hva_ hvn_ hvc_
                      rw [hva_] at ge137_1
                      rw [hvc_] at ul137_1
                      have HL137_1 := Aside0.mk (show Kd.V Kd.string 9 _ w.heap.size _ _ ((rd_T60 l0_0 x4_1).f1) from Kd.V_mk ul137_1 ge137_1)
                      clear hva_ hvn_ hvc_ ge137_1 ul137_1
                      clear hcc137 hce137
                      have HR137_0 := Aside0.mk hi137_0
                      have HC137_0 := Aside0.mk hl137_0
                      clear hi137_0 hl137_0
                      have HR137_1 := Aside0.mk hi137_1
                      have HC137_1 := Aside0.mk hl137_1
                      clear hi137_1 hl137_1
                      replace p137 := eq_true p137
                      replace q137 := eq_true q137
                      go_wp2_with (first | ((with_reducible refine gate_dst (N := 5) rfl ?_); refine box_event ?hg (N := 5) ?hd (cs := #[.slice none 0 0, .slice none 0 0]) (t := 60) ?hr ?_; (case hd => rfl); (case hg => rfl); (case hr => first | (go_simp; done) | (go_simp; rfl)); intro gb138 hg w89 hbox hb; have n0_ := Aside0.mk (Kd.V_below (Kd.V_elderB (by (with_reducible repeat (first | apply Kd.V_alloc | apply Kd.V_drewN | apply Kd.V_drew)); exact HO_135000.out) gb138 (Nat.le_of_eq hg.symm)) hb); have n1_ := Aside0.mk (Kd.N_below (Kd.N_elderB (by (with_reducible repeat (first | apply Kd.N_alloc | apply Kd.N_drewN | apply Kd.N_drew)); exact HO_137000.out) gb138 (Nat.le_of_eq hg.symm)) hb); have n2_ := Aside0.mk (Kd.V_below (Kd.V_elderB (by (with_reducible repeat (first | apply Kd.V_alloc | apply Kd.V_drewN | apply Kd.V_drew)); exact HL137_0.out) gb138 (Nat.le_of_eq hg.symm)) hb); have n3_ := Aside0.mk (Kd.V_below (Kd.V_elderB (by (with_reducible repeat (first | apply Kd.V_alloc | apply Kd.V_drewN | apply Kd.V_drew)); exact HL137_1.out) gb138 (Nat.le_of_eq hg.symm)) hb); have n4_ := Aside0.mk (blk_below (g := gb134) (o := .cells #[.slice (some ad137) l0_0.length c0_0] 25 (0, 0)) (by (with_reducible repeat (first | refine blk_drewN ?_ _ | refine blk_drew ?_ | refine blk_alloc ?_ _)); exact BK134.out) hb); have n5_ := Aside0.mk (blk_below (g := gb135) (o := .cells #[.slice none 0 0] 25 (0, 0)) (by (with_reducible repeat (first | refine blk_drewN ?_ _ | refine blk_drew ?_ | refine blk_alloc ?_ _)); exact BK135.out) hb); have n6_ := Aside0.mk (blk_below (g := gb136) (o := .cells #[u137000] 25 (0, 0)) (by (with_reducible repeat (first | refine blk_drewN ?_ _ | refine blk_drew ?_ | refine blk_alloc ?_ _)); exact BK136.out) hb); have n7_ := Aside0.mk (Kd.C_below (by repeat (first | (with_reducible exact HR137_0.out) | (with_reducible refine Kd.C_alloc ?_ _) | (with_reducible refine Kd.C_drewN ?_ _) | (with_reducible refine Kd.C_drew ?_) | exact HR137_0.out | exact (Kd.V_reads' HL137_0.out).2.2)) hb); have n8_ := Aside0.mk (Kd.C_below (by repeat (first | (with_reducible exact HR137_1.out) | (with_reducible refine Kd.C_alloc ?_ _) | (with_reducible refine Kd.C_drewN ?_ _) | (with_reducible refine Kd.C_drew ?_) | exact HR137_1.out | exact (Kd.V_reads' HL137_1.out).2.2)) hb); have n9_ := Aside0.mk (below_step (by repeat (first | (with_reducible first | exact HB.out | apply below_alloc | apply pw_below_drewN | apply below_drew1 | refine below_set ?_ GE134.out | refine below_set ?_ GE135.out | refine below_set ?_ GE136.out) | exact HB.out)) hb); have n10_ := Aside0.mk (hbox); have n11_ := Aside0.mk ((by rw [hg]; exact (below_size (by repeat (first | (with_reducible first | exact HB.out | apply below_alloc | apply pw_below_drewN | apply below_drew1 | refine below_set ?_ GE134.out | refine below_set ?_ GE135.out | refine below_set ?_ GE136.out) | exact HB.out))) : w.heap.size ≤ gb138)); have n12_ := Aside0.mk ((by rw [hg]; exact (below_size (by repeat (first | (with_reducible first | exact HB.out | apply below_alloc | apply pw_below_drewN | apply below_drew1 | refine below_set ?_ GE134.out | refine below_set ?_ GE135.out | refine below_set ?_ GE136.out) | exact HB.out))) : w.heap.size ≤ gb138)); have n13_ := Aside0.mk ((by rw [hg]; exact Nat.ne_of_lt (blk_lt (g := gb134) (o := .cells #[.slice (some ad137) l0_0.length c0_0] 25 (0, 0)) (by (with_reducible repeat (first | refine blk_drewN ?_ _ | refine blk_drew ?_ | refine blk_alloc ?_ _)); exact BK134.out)) : gb134 ≠ gb138)); have n14_ := Aside0.mk ((by rw [hg]; exact Nat.ne_of_gt (blk_lt (g := gb134) (o := .cells #[.slice (some ad137) l0_0.length c0_0] 25 (0, 0)) (by (with_reducible repeat (first | refine blk_drewN ?_ _ | refine blk_drew ?_ | refine blk_alloc ?_ _)); exact BK134.out)) : gb138 ≠ gb134)); have n15_ := Aside0.mk ((by rw [hg]; exact Nat.ne_of_lt (blk_lt (g := gb135) (o := .cells #[.slice none 0 0] 25 (0, 0)) (by (with_reducible repeat (first | refine blk_drewN ?_ _ | refine blk_drew ?_ | refine blk_alloc ?_ _)); exact BK135.out)) : gb135 ≠ gb138)); have n16_ := Aside0.mk ((by rw [hg]; exact Nat.ne_of_gt (blk_lt (g := gb135) (o := .cells #[.slice none 0 0] 25 (0, 0)) (by (with_reducible repeat (first | refine blk_drewN ?_ _ | refine blk_drew ?_ | refine blk_alloc ?_ _)); exact BK135.out)) : gb138 ≠ gb135)); have n17_ := Aside0.mk ((by rw [hg]; exact Nat.ne_of_lt (blk_lt (g := gb136) (o := .cells #[u137000] 25 (0, 0)) (by (with_reducible repeat (first | refine blk_drewN ?_ _ | refine blk_drew ?_ | refine blk_alloc ?_ _)); exact BK136.out)) : gb136 ≠ gb138)); have n18_ := Aside0.mk ((by rw [hg]; exact Nat.ne_of_gt (blk_lt (g := gb136) (o := .cells #[u137000] 25 (0, 0)) (by (with_reducible repeat (first | refine blk_drewN ?_ _ | refine blk_drew ?_ | refine blk_alloc ?_ _)); exact BK136.out)) : gb138 ≠ gb136)); clear HO_135000; clear HO_137000; clear HL137_0; clear HL137_1; clear BK134; clear BK135; clear BK136; clear HR137_0; clear HR137_1; clear HB; have HO_135000 := n0_; have HO_137000 := n1_; have HL137_0 := n2_; have HL137_1 := n3_; have BK134 := n4_; have BK135 := n5_; have BK136 := n6_; have HR137_0 := n7_; have HR137_1 := n8_; have HB := n9_; have BK138 := n10_; have GW138 := n11_; have GE138 := n12_; have NB134_138 := n13_; have NB138_134 := n14_; have NB135_138 := n15_; have NB138_135 := n16_; have NB136_138 := n17_; have NB138_136 := n18_; clear n0_ n1_ n2_ n3_ n4_ n5_ n6_ n7_ n8_ n9_ n10_ n11_ n12_ n13_ n14_ n15_ n16_ n17_ n18_; clear hb hbox hg; have hnb90 := NB138_134.out; have hnc90 := NB134_138.out; have hnb91 := NB138_135.out; have hnc91 := NB135_138.out; have hnb92 := NB138_136.out; have hnc92 := NB136_138.out; have hcz93_0 : w89.cell? ⟨gb138, 0, none⟩ = some (.slice none 0 0) := (blk_cell BK138.out 0).trans rfl; have hcz93_1 : w89.cell? ⟨gb138, 1, none⟩ = some (.slice none 0 0) := (blk_cell BK138.out 1).trans rfl; have hfz93_0 := blk_frozen BK138.out 0; have hfz93_1 := blk_frozen BK138.out 1) | ((with_reducible refine gate_store (t := 60) (p := 5) rfl ?_); refine store_event (t := 60) (p := 5) (v := ?vo_w94) (w1 := ((w89.setCell ⟨gb138, 0, none⟩ (.slice A137_0 ((rd_T60 l0_0 x4_1).f0).length c137_0)).setCell ⟨gb138, 1, none⟩ (.slice A137_1 ((rd_T60 l0_0 x4_1).f1).length c137_1))) ?hg ?ho ?hn ?hr ?_; (case ho => rfl); (case hg => rfl); (case hn => rfl); (case hr => first | (go_simp; done) | (go_simp; rfl)); intro w94 hw; have n0_ : Aside0 (Kd.V k60 60 w94 w.heap.size (fun k_ => (P0_0_ k_ ∨ w.heap.size ≤ k_) ∧ some k_ ≠ (u137000 : Value).ownBlock ∧ k_ ≠ gb134 ∧ k_ ≠ gb135 ∧ k_ ≠ gb136 ∧ k_ ≠ gb138) (.slice (some ad137) l0_0.length c0_0) l0_0) := ⟨(by rw [hw]; exact (by (with_reducible repeat (first | apply Kd.V_alloc | apply Kd.V_drewN | apply Kd.V_drew)); exact Kd.V_mono (Kd.V_far (p := ⟨gb138, 1, none⟩) (Kd.V_far (p := ⟨gb138, 0, none⟩) (Kd.V_mono HO_135000.out (fun k_ hk => (⟨hk, hk.2⟩ : _ ∧ k_ ≠ gb138))) (fun _ hk => hk.2) (.slice A137_0 ((rd_T60 l0_0 x4_1).f0).length c137_0)) (fun _ hk => hk.2) (.slice A137_1 ((rd_T60 l0_0 x4_1).f1).length c137_1)) (fun _ hk => ⟨hk.1.1.1, ⟨hk.1.1.2.1, ⟨hk.1.1.2.2.1, ⟨hk.1.1.2.2.2.1, ⟨hk.1.1.2.2.2.2, hk.1.2⟩⟩⟩⟩⟩)))⟩; have n1_ : Aside0 (Kd.N k60 60 w94 w.heap.size (fun k_ => (P0_0_ k_ ∨ w.heap.size ≤ k_) ∧ k_ ≠ gb134 ∧ k_ ≠ gb135 ∧ k_ ≠ gb136 ∧ k_ ≠ gb138) u137000 x137000_1) := ⟨(by rw [hw]; exact (by (with_reducible repeat (first | apply Kd.N_alloc | apply Kd.N_drewN | apply Kd.N_drew)); exact Kd.N_mono (Kd.N_far (p := ⟨gb138, 1, none⟩) (Kd.N_far (p := ⟨gb138, 0, none⟩) (Kd.N_mono HO_137000.out (fun k_ hk => (⟨hk, hk.2⟩ : _ ∧ k_ ≠ gb138))) (fun _ hk => hk.2) (.slice A137_0 ((rd_T60 l0_0 x4_1).f0).length c137_0)) (fun _ hk => hk.2) (.slice A137_1 ((rd_T60 l0_0 x4_1).f1).length c137_1)) (fun _ hk => ⟨hk.1.1.1, ⟨hk.1.1.2.1, ⟨hk.1.1.2.2.1, ⟨hk.1.1.2.2.2, hk.1.2⟩⟩⟩⟩)))⟩; have n2_ : Aside0 (Kd.V Kd.string 9 w94 w.heap.size (fun k_ => (P0_0_ k_ ∨ w.heap.size ≤ k_) ∧ some k_ ≠ (u137000 : Value).ownBlock ∧ k_ ≠ gb134 ∧ k_ ≠ gb135 ∧ k_ ≠ gb136 ∧ k_ ≠ gb138) (.slice A137_0 ((rd_T60 l0_0 x4_1).f0).length c137_0) ((rd_T60 l0_0 x4_1).f0)) := ⟨(by rw [hw]; exact (by (with_reducible repeat (first | apply Kd.V_alloc | apply Kd.V_drewN | apply Kd.V_drew)); exact Kd.V_mono (Kd.V_far (p := ⟨gb138, 1, none⟩) (Kd.V_far (p := ⟨gb138, 0, none⟩) (Kd.V_mono HL137_0.out (fun k_ hk => (⟨hk, hk.2⟩ : _ ∧ k_ ≠ gb138))) (fun _ hk => hk.2) (.slice A137_0 ((rd_T60 l0_0 x4_1).f0).length c137_0)) (fun _ hk => hk.2) (.slice A137_1 ((rd_T60 l0_0 x4_1).f1).length c137_1)) (fun _ hk => ⟨hk.1.1.1, ⟨hk.1.1.2.1, ⟨hk.1.1.2.2.1, ⟨hk.1.1.2.2.2.1, ⟨hk.1.1.2.2.2.2, hk.1.2⟩⟩⟩⟩⟩)))⟩; have n3_ : Aside0 (Kd.V Kd.string 9 w94 w.heap.size (fun k_ => (P0_0_ k_ ∨ w.heap.size ≤ k_) ∧ some k_ ≠ (u137000 : Value).ownBlock ∧ k_ ≠ gb134 ∧ k_ ≠ gb135 ∧ k_ ≠ gb136 ∧ k_ ≠ gb138) (.slice A137_1 ((rd_T60 l0_0 x4_1).f1).length c137_1) ((rd_T60 l0_0 x4_1).f1)) := ⟨(by rw [hw]; exact (by (with_reducible repeat (first | apply Kd.V_alloc | apply Kd.V_drewN | apply Kd.V_drew)); exact Kd.V_mono (Kd.V_far (p := ⟨gb138, 1, none⟩) (Kd.V_far (p := ⟨gb138, 0, none⟩) (Kd.V_mono HL137_1.out (fun k_ hk => (⟨hk, hk.2⟩ : _ ∧ k_ ≠ gb138))) (fun _ hk => hk.2) (.slice A137_0 ((rd_T60 l0_0 x4_1).f0).length c137_0)) (fun _ hk => hk.2) (.slice A137_1 ((rd_T60 l0_0 x4_1).f1).length c137_1)) (fun _ hk => ⟨hk.1.1.1, ⟨hk.1.1.2.1, ⟨hk.1.1.2.2.1, ⟨hk.1.1.2.2.2.1, ⟨hk.1.1.2.2.2.2, hk.1.2⟩⟩⟩⟩⟩)))⟩; have n4_ : Aside0 (w94.heap[gb134]? = some (.cells #[.slice (some ad137) l0_0.length c0_0] 25 (0, 0))) := ⟨(by rw [hw]; exact (by (with_reducible repeat (first | refine blk_drewN ?_ _ | refine blk_drew ?_ | refine blk_alloc ?_ _)); refine blk_far ?_ NB134_138.out _; (with_reducible repeat (first | refine blk_drewN ?_ _ | refine blk_drew ?_ | refine blk_alloc ?_ _)); refine blk_far ?_ NB134_138.out _; (with_reducible repeat (first | refine blk_drewN ?_ _ | refine blk_drew ?_ | refine blk_alloc ?_ _)); exact BK134.out))⟩; have n5_ : Aside0 (w94.heap[gb135]? = some (.cells #[.slice none 0 0] 25 (0, 0))) := ⟨(by rw [hw]; exact (by (with_reducible repeat (first | refine blk_drewN ?_ _ | refine blk_drew ?_ | refine blk_alloc ?_ _)); refine blk_far ?_ NB135_138.out _; (with_reducible repeat (first | refine blk_drewN ?_ _ | refine blk_drew ?_ | refine blk_alloc ?_ _)); refine blk_far ?_ NB135_138.out _; (with_reducible repeat (first | refine blk_drewN ?_ _ | refine blk_drew ?_ | refine blk_alloc ?_ _)); exact BK135.out))⟩; have n6_ : Aside0 (w94.heap[gb136]? = some (.cells #[u137000] 25 (0, 0))) := ⟨(by rw [hw]; exact (by (with_reducible repeat (first | refine blk_drewN ?_ _ | refine blk_drew ?_ | refine blk_alloc ?_ _)); refine blk_far ?_ NB136_138.out _; (with_reducible repeat (first | refine blk_drewN ?_ _ | refine blk_drew ?_ | refine blk_alloc ?_ _)); refine blk_far ?_ NB136_138.out _; (with_reducible repeat (first | refine blk_drewN ?_ _ | refine blk_drew ?_ | refine blk_alloc ?_ _)); exact BK136.out))⟩; have n7_ : Aside0 (w94.heap[gb138]? = some (.cells #[.slice A137_0 ((rd_T60 l0_0 x4_1).f0).length c137_0, .slice A137_1 ((rd_T60 l0_0 x4_1).f1).length c137_1] 60 (0, 0))) := ⟨(by rw [hw]; exact (by (with_reducible repeat (first | refine blk_drewN ?_ _ | refine blk_drew ?_ | refine blk_alloc ?_ _)); refine blk_put (cs := #[.slice A137_0 ((rd_T60 l0_0 x4_1).f0).length c137_0, .slice none 0 0]) ?_ 1 _ rfl; (with_reducible repeat (first | refine blk_drewN ?_ _ | refine blk_drew ?_ | refine blk_alloc ?_ _)); refine blk_put (cs := #[.slice none 0 0, .slice none 0 0]) ?_ 0 _ rfl; (with_reducible repeat (first | refine blk_drewN ?_ _ | refine blk_drew ?_ | refine blk_alloc ?_ _)); exact BK138.out))⟩; have n8_ : Aside0 (Below w.heap.size w w94) := ⟨(by rw [hw]; exact (by repeat (first | (with_reducible first | exact HB.out | apply below_alloc | apply pw_below_drewN | apply below_drew1 | refine below_set ?_ GE134.out | refine below_set ?_ GE135.out | refine below_set ?_ GE136.out | refine below_set ?_ GE138.out) | exact HB.out)))⟩; clear hw; clear HO_135000; clear HO_137000; clear HL137_0; clear HL137_1; clear BK134; clear BK135; clear BK136; clear BK138; clear HB; have HO_135000 := n0_; have HO_137000 := n1_; have HL137_0 := n2_; have HL137_1 := n3_; have BK134 := n4_; have BK135 := n5_; have BK136 := n6_; have BK138 := n7_; have HB := n8_; clear n0_ n1_ n2_ n3_ n4_ n5_ n6_ n7_ n8_; have hcz95_0 : w94.cell? ⟨gb138, 0, none⟩ = some (.slice A137_0 ((rd_T60 l0_0 x4_1).f0).length c137_0) := (blk_cell BK138.out 0).trans rfl; have hcz95_1 : w94.cell? ⟨gb138, 1, none⟩ = some (.slice A137_1 ((rd_T60 l0_0 x4_1).f1).length c137_1) := (blk_cell BK138.out 1).trans rfl; have hfz95_0 := blk_frozen BK138.out 0; have hfz95_1 := blk_frozen BK138.out 1; have hnb96 := NB136_135.out; have hnc96 := NB135_136.out; have hcz97_0 : w94.cell? ⟨gb136, 0, none⟩ = some (u137000) := (blk_cell BK136.out 0).trans rfl; have hfz97_0 := blk_frozen BK136.out 0) | ((with_reducible refine gate_builtin (b := .append) (xs := #[.tmp 40, .tmp 42]) rfl ?_); at_builtin; refine Kd.N_append k60 (w0 := w) w.heap.size rfl (.tmp 40) (.tmp 42) 23 60 (.agg #[(.slice none 0 0), (.slice none 0 0)]) 48 rfl Try.underlying23 info60 rfl (by decide) (by omega) u137000 x137000_1 (⟨(rd_T60 l0_0 x4_1).f0, (rd_T60 l0_0 x4_1).f1⟩ : S60) [.slice A137_0 ((rd_T60 l0_0 x4_1).f0).length c137_0, .slice A137_1 ((rd_T60 l0_0 x4_1).f1).length c137_1] (fun k_ => (P0_0_ k_ ∨ w.heap.size ≤ k_) ∧ k_ ≠ gb134 ∧ k_ ≠ gb135 ∧ k_ ≠ gb136 ∧ k_ ≠ gb138) (fun k_ => ((fun k_ => (P0_0_ k_ ∨ w.heap.size ≤ k_) ∧ k_ ≠ gb134 ∧ k_ ≠ gb135 ∧ k_ ≠ gb136 ∧ k_ ≠ gb138)) k_ ∧ some k_ ≠ (u137000 : Value).ownBlock) rfl rfl ?aP (fun _ hk => hk) ?aF ?aO ?aB ?aS ?aL ?_; (case aP => exact (k60_mkF _ _ (⟨(rd_T60 l0_0 x4_1).f0, (rd_T60 l0_0 x4_1).f1⟩ : S60) (Kd.V_reads' (Kd.V_mono (ok' := (fun k_ => ((fun k_ => (P0_0_ k_ ∨ w.heap.size ≤ k_) ∧ k_ ≠ gb134 ∧ k_ ≠ gb135 ∧ k_ ≠ gb136 ∧ k_ ≠ gb138)) k_ ∧ some k_ ≠ (u137000 : Value).ownBlock)) (HL137_0.out) (fun k_ hk => ⟨⟨hk.1, ⟨hk.2.2.1, ⟨hk.2.2.2.1, ⟨hk.2.2.2.2.1, hk.2.2.2.2.2⟩⟩⟩⟩, hk.2.1⟩))).2.1 (Kd.V_F (Kd.V_mono (ok' := (fun k_ => ((fun k_ => (P0_0_ k_ ∨ w.heap.size ≤ k_) ∧ k_ ≠ gb134 ∧ k_ ≠ gb135 ∧ k_ ≠ gb136 ∧ k_ ≠ gb138)) k_ ∧ some k_ ≠ (u137000 : Value).ownBlock)) (HL137_0.out) (fun k_ hk => ⟨⟨hk.1, ⟨hk.2.2.1, ⟨hk.2.2.2.1, ⟨hk.2.2.2.2.1, hk.2.2.2.2.2⟩⟩⟩⟩, hk.2.1⟩))) (Kd.V_reads' (Kd.V_mono (ok' := (fun k_ => ((fun k_ => (P0_0_ k_ ∨ w.heap.size ≤ k_) ∧ k_ ≠ gb134 ∧ k_ ≠ gb135 ∧ k_ ≠ gb136 ∧ k_ ≠ gb138)) k_ ∧ some k_ ≠ (u137000 : Value).ownBlock)) (HL137_1.out) (fun k_ hk => ⟨⟨hk.1, ⟨hk.2.2.1, ⟨hk.2.2.2.1, ⟨hk.2.2.2.2.1, hk.2.2.2.2.2⟩⟩⟩⟩, hk.2.1⟩))).2.1 (Kd.V_F (Kd.V_mono (ok' := (fun k_ => ((fun k_ => (P0_0_ k_ ∨ w.heap.size ≤ k_) ∧ k_ ≠ gb134 ∧ k_ ≠ gb135 ∧ k_ ≠ gb136 ∧ k_ ≠ gb138)) k_ ∧ some k_ ≠ (u137000 : Value).ownBlock)) (HL137_1.out) (fun k_ hk => ⟨⟨hk.1, ⟨hk.2.2.1, ⟨hk.2.2.2.1, ⟨hk.2.2.2.2.1, hk.2.2.2.2.2⟩⟩⟩⟩, hk.2.1⟩))))); (case aB => exact (by repeat (first | (with_reducible first | exact HB.out | apply below_alloc | apply pw_below_drewN | apply below_drew1 | refine below_set ?_ GE134.out | refine below_set ?_ GE135.out | refine below_set ?_ GE136.out | refine below_set ?_ GE138.out) | exact HB.out))); (case aF => exact (fun k_ hk => ⟨(.inr (Nat.le_trans (below_size (by repeat (first | (with_reducible first | exact HB.out | apply below_alloc | apply pw_below_drewN | apply below_drew1 | refine below_set ?_ GE134.out | refine below_set ?_ GE135.out | refine below_set ?_ GE136.out | refine below_set ?_ GE138.out) | exact HB.out))) hk)), Kd.freshB (g := gb134) (o := .cells #[.slice (some ad137) l0_0.length c0_0] 25 (0, 0)) (by (with_reducible repeat (first | refine blk_drewN ?_ _ | refine blk_drew ?_ | refine blk_alloc ?_ _)); exact BK134.out) k_ hk, Kd.freshB (g := gb135) (o := .cells #[.slice none 0 0] 25 (0, 0)) (by (with_reducible repeat (first | refine blk_drewN ?_ _ | refine blk_drew ?_ | refine blk_alloc ?_ _)); exact BK135.out) k_ hk, Kd.freshB (g := gb136) (o := .cells #[u137000] 25 (0, 0)) (by (with_reducible repeat (first | refine blk_drewN ?_ _ | refine blk_drew ?_ | refine blk_alloc ?_ _)); exact BK136.out) k_ hk, Kd.freshB (g := gb138) (o := .cells #[.slice A137_0 ((rd_T60 l0_0 x4_1).f0).length c137_0, .slice A137_1 ((rd_T60 l0_0 x4_1).f1).length c137_1] 60 (0, 0)) (by (with_reducible repeat (first | refine blk_drewN ?_ _ | refine blk_drew ?_ | refine blk_alloc ?_ _)); exact BK138.out) k_ hk⟩)); (case aO => exact (by (with_reducible repeat (first | apply Kd.N_alloc | apply Kd.N_drewN | apply Kd.N_drew)); exact HO_137000.out)); (case aS => exact (below_size (by repeat (first | (with_reducible first | exact HB.out | apply below_alloc | apply pw_below_drewN | apply below_drew1 | refine below_set ?_ GE134.out | refine below_set ?_ GE135.out | refine below_set ?_ GE136.out | refine below_set ?_ GE138.out) | exact HB.out)))); (case aL => have := LMc85.out; omega); intro v164 w98 ho hb hg hat; rw [← Ny163.out] at ho; have n0_ := Aside0.mk (Kd.V_afterv (ok := (fun k_ => (P0_0_ k_ ∨ w.heap.size ≤ k_) ∧ k_ ≠ gb134 ∧ k_ ≠ gb135 ∧ k_ ≠ gb136 ∧ k_ ≠ gb138)) (by (with_reducible repeat (first | apply Kd.V_alloc | apply Kd.V_drewN | apply Kd.V_drew)); exact Kd.V_mono HO_135000.out (fun _ hk => ⟨⟨hk.1, ⟨hk.2.2.1, ⟨hk.2.2.2.1, ⟨hk.2.2.2.2.1, hk.2.2.2.2.2⟩⟩⟩⟩, hk.2.1⟩)) hg hat); have n1_ := Aside0.mk (blk_grown (g := gb134) (o := .cells #[.slice (some ad137) l0_0.length c0_0] 25 (0, 0)) (by (with_reducible repeat (first | refine blk_drewN ?_ _ | refine blk_drew ?_ | refine blk_alloc ?_ _)); exact BK134.out) hg (Kd.N_ne HO_137000.out BK134.out (by decide))); have n2_ := Aside0.mk (blk_grown (g := gb135) (o := .cells #[.slice none 0 0] 25 (0, 0)) (by (with_reducible repeat (first | refine blk_drewN ?_ _ | refine blk_drew ?_ | refine blk_alloc ?_ _)); exact BK135.out) hg (Kd.N_ne HO_137000.out BK135.out (by decide))); have n3_ := Aside0.mk (blk_grown (g := gb136) (o := .cells #[u137000] 25 (0, 0)) (by (with_reducible repeat (first | refine blk_drewN ?_ _ | refine blk_drew ?_ | refine blk_alloc ?_ _)); exact BK136.out) hg (Kd.N_ne HO_137000.out BK136.out (by decide))); have n4_ := Aside0.mk (Kd.V_afterv (ok := (fun k_ => (P0_0_ k_ ∨ w.heap.size ≤ k_) ∧ k_ ≠ gb134 ∧ k_ ≠ gb135 ∧ k_ ≠ gb136 ∧ k_ ≠ gb138)) (by (with_reducible repeat (first | apply Kd.V_alloc | apply Kd.V_drewN | apply Kd.V_drew)); exact Kd.V_mono HL137_0.out (fun _ hk => ⟨⟨hk.1, ⟨hk.2.2.1, ⟨hk.2.2.2.1, ⟨hk.2.2.2.2.1, hk.2.2.2.2.2⟩⟩⟩⟩, hk.2.1⟩)) hg hat); have n5_ := Aside0.mk (Kd.V_afterv (ok := (fun k_ => (P0_0_ k_ ∨ w.heap.size ≤ k_) ∧ k_ ≠ gb134 ∧ k_ ≠ gb135 ∧ k_ ≠ gb136 ∧ k_ ≠ gb138)) (by (with_reducible repeat (first | apply Kd.V_alloc | apply Kd.V_drewN | apply Kd.V_drew)); exact Kd.V_mono HL137_1.out (fun _ hk => ⟨⟨hk.1, ⟨hk.2.2.1, ⟨hk.2.2.2.1, ⟨hk.2.2.2.2.1, hk.2.2.2.2.2⟩⟩⟩⟩, hk.2.1⟩)) hg hat); have n6_ := Aside0.mk (blk_grown (g := gb138) (o := .cells #[.slice A137_0 ((rd_T60 l0_0 x4_1).f0).length c137_0, .slice A137_1 ((rd_T60 l0_0 x4_1).f1).length c137_1] 60 (0, 0)) (by (with_reducible repeat (first | refine blk_drewN ?_ _ | refine blk_drew ?_ | refine blk_alloc ?_ _)); exact BK138.out) hg (Kd.N_away HO_137000.out (fun _ hk => hk.2.2.2.2))); have n7_ := Aside0.mk (hb); have n8_ := Aside0.mk (ho); clear HO_135000; clear BK134; clear BK135; clear BK136; clear HL137_0; clear HL137_1; clear BK138; clear HB; clear HO_137000; have HO_135000 := n0_; have BK134 := n1_; have BK135 := n2_; have BK136 := n3_; have HL137_0 := n4_; have HL137_1 := n5_; have BK138 := n6_; have HB := n7_; have HO165 := n8_; clear n0_ n1_ n2_ n3_ n4_ n5_ n6_ n7_ n8_; clear ho hb hg hat; obtain ⟨Ao99, co99, eo99⟩ := Kd.N_slice HO165.out; subst eo99; have hcz100_0 : w98.cell? ⟨gb136, 0, none⟩ = some (u137000) := (blk_cell BK136.out 0).trans rfl; have hfz100_0 := blk_frozen BK136.out 0))
                      go_roundg kj7
                      case measure => have := HK1.out; have := HJ7.out; omega
                      case rel => exact ⟨(wrap64 (x4_1 + 1)), (y163), (.slice Ao99 y163.length co99), (by first | rfl | (simp; done) | (simp [*]; done)), H', ⟨by have := HK1.out; have := HJ7.out; omega⟩, ⟨by (with_reducible repeat (first | apply Kd.V_alloc | apply Kd.V_drewN | apply Kd.V_drew)); exact Kd.V_mono (Kd.V_far (p := ⟨gb136, 0, none⟩) (Kd.V_mono HO_135000.out (fun k_ hk => (⟨hk, hk.1.2.2.2.1⟩ : _ ∧ k_ ≠ gb136))) (fun _ hk => hk.2) (.slice Ao99 y163.length co99)) (fun _ hk => ⟨hk.1.1.1, ⟨hk.1.2, ⟨hk.1.1.2.1, ⟨hk.1.1.2.2.1, hk.1.1.2.2.2.1⟩⟩⟩⟩)⟩, ⟨by (with_reducible repeat (first | apply Kd.N_alloc | apply Kd.N_drewN | apply Kd.N_drew)); exact Kd.N_mono (Kd.N_far (p := ⟨gb136, 0, none⟩) (Kd.N_mono HO165.out (fun k_ hk => (⟨hk, hk.2.2.2.1⟩ : _ ∧ k_ ≠ gb136))) (fun _ hk => hk.2) (.slice Ao99 y163.length co99)) (fun _ hk => ⟨hk.1.1, ⟨hk.1.2.1, ⟨hk.1.2.2.1, hk.1.2.2.2.1⟩⟩⟩)⟩, ⟨by (with_reducible repeat (first | refine blk_drewN ?_ _ | refine blk_drew ?_ | refine blk_alloc ?_ _)); refine blk_far ?_ NB134_136.out _; (with_reducible repeat (first | refine blk_drewN ?_ _ | refine blk_drew ?_ | refine blk_alloc ?_ _)); exact BK134.out⟩, ⟨by (with_reducible repeat (first | refine blk_drewN ?_ _ | refine blk_drew ?_ | refine blk_alloc ?_ _)); refine blk_far ?_ NB135_136.out _; (with_reducible repeat (first | refine blk_drewN ?_ _ | refine blk_drew ?_ | refine blk_alloc ?_ _)); exact BK135.out⟩, ⟨by (with_reducible repeat (first | refine blk_drewN ?_ _ | refine blk_drew ?_ | refine blk_alloc ?_ _)); refine blk_put (cs := #[u137000]) ?_ 0 _ rfl; (with_reducible repeat (first | refine blk_drewN ?_ _ | refine blk_drew ?_ | refine blk_alloc ?_ _)); exact BK136.out⟩, ⟨by repeat (first | (with_reducible first | exact HB.out | apply below_alloc | apply pw_below_drewN | apply below_drew1 | refine below_set ?_ GE134.out | refine below_set ?_ GE135.out | refine below_set ?_ GE136.out | refine below_set ?_ GE138.out) | exact HB.out)⟩⟩
                    · rw [if_neg c85] at H
                      exact absurd H (by simp)
              · rw [if_neg c18] at H
                exact absurd H (by simp)
            · rw [if_neg c17] at H
              exact absurd H (by simp)
          · replace c16 := Bool.eq_false_iff.mpr c16
            subst c16
            have H1 : (some x137000_1) = some r := by rw [if_neg (show ¬ (false = true) by decide)] at H; exact H
            clear H
            have H := H1
            clear H1
            obtain rfl := Option.some.inj H
            have hnb101 := NB136_134.out
            have hnc101 := NB134_136.out
            have hnb102 := NB136_135.out
            have hnc102 := NB135_136.out
            have hcz103_0 : wc.cell? ⟨gb136, 0, none⟩ = some (u137000) := (blk_cell BK136.out 0).trans rfl
            have hfz103_0 := blk_frozen BK136.out 0
            obtain ⟨Ao104, co104, eo104⟩ := Kd.N_slice HO_137000.out
            subst eo104
            have hnb105 := NB135_134.out
            have hnc105 := NB134_135.out
            have hcz106_0 : wc.cell? ⟨gb135, 0, none⟩ = some (.slice none 0 0) := (blk_cell BK135.out 0).trans rfl
            have hfz106_0 := blk_frozen BK135.out 0
            go_wp2
            refine bodyPost_ret (results_cell_row rfl _ _ gb135 25 #[.slice Ao104 x137000_1.length co104] (0, 0) _ rfl (by (with_reducible repeat (first | refine blk_drewN ?_ _ | refine blk_drew ?_ | refine blk_alloc ?_ _)); refine blk_put (cs := #[.slice none 0 0]) ?_ 0 _ rfl; (with_reducible repeat (first | refine blk_drewN ?_ _ | refine blk_drew ?_ | refine blk_alloc ?_ _)); exact BK135.out) Try.underlying25 rfl (by kernel_rfl)) rfl ?_
            exact ⟨_, by first | rfl | (simp [errW_none, errW_some] <;> rfl) | (simp [*, errW_none, errW_some] <;> rfl), by (with_reducible repeat (first | apply Kd.N_alloc | apply Kd.N_drewN | apply Kd.N_drew)); exact Kd.N_mono (Kd.N_far (p := ⟨gb135, 0, none⟩) (Kd.N_mono HO_137000.out (fun k_ hk => (⟨hk, hk.2.2.1⟩ : _ ∧ k_ ≠ gb135))) (fun _ hk => hk.2) (.slice Ao104 x137000_1.length co104)) (fun _ hk => hk.1.1), by repeat (first | (with_reducible first | exact HB.out | apply below_alloc | apply pw_below_drewN | apply below_drew1 | refine below_set ?_ GE134.out | refine below_set ?_ GE135.out | refine below_set ?_ GE136.out) | exact HB.out)⟩

end Go.Proofs.Ytdpigeineephlaa.Prt
namespace Go.Proofs.Ytdpigeineephlaa.Prt
open Go.RowKit Go.Proofs.YtdpigeineephlaaW.PrintWords Go.Proofs.YtdpigeineephlaaW.PrintLast Go.Proofs.YtdpigeineephlaaW.PrintMore
attribute [local go_sem] max2_int min2_int max_two min_two max_three min_three max_four min_four   -- for this text's walks alone
set_option linter.unusedVariables false
set_option linter.unusedSimpArgs false

def registrarlaw07_some.l0 : Nat → List (S36) → List (S36) → Int → Option ((List (S36)))
  | 0, _, _, _ => none
  | k + 1, x0, x3, x4 => if x4 < (x0.length : Int) then (if x4 < 6 then (if 0 ≤ x4 then ((registrarlaw07_few.f k ((rd_T36 x0 x4).f2.f0)).bind fun t221 => (if x3.length < 2932031007402 then (registrarlaw07_some.l0 k x0 (x3 ++ [(⟨(rd_T36 x0 x4).f0, (rd_T36 x0 x4).f1, (⟨t221⟩ : S25)⟩ : S36)]) (wrap64 (x4 + 1))) else (none))) else (none)) else (some x3)) else (some x3)
def registrarlaw07_some.f (k : Nat) (l0 : List (S36)) : Option ((List (S36))) := registrarlaw07_some.l0 k l0 (([] : List (S36))) 0
set_option maxHeartbeats 8000000 in
set_option maxRecDepth 100000 in
theorem registrarlaw07_some.calls (k : Nat) (P0_ : Nat → Prop) (A0 : Option Addr) (c0 : Nat) (l0 : List (S36)) (r : List (S36)) (w : World) (hs0 : Kd.V k36 36 w w.heap.size (fun k_ => P0_ k_) (.slice A0 l0.length c0) l0) (h : registrarlaw07_some.f k l0 = some r) :
    Calls Try.prog 14 #[.slice A0 l0.length c0] w fun e w' => ∃ v0_ : Value, e = .returned (v0_) ∧ Kd.N k36 36 w' w.heap.size (fun k_ => (P0_ k_ ∨ w.heap.size ≤ k_)) v0_ r ∧ Below w.heap.size w w' := by
  have hu36 := Try.underlying36
  have hu25 := Try.underlying25
  have HO0 := Aside0.mk (show Kd.V k36 36 w w.heap.size (fun k_ => (P0_ k_ ∨ w.heap.size ≤ k_)) (.slice A0 l0.length c0) l0 from Kd.V_mono hs0 (fun k_ hk => .inl hk))
  have HB := Aside0.mk (Below.refl w.heap.size w)
  have H : (registrarlaw07_some.l0 k l0 (([] : List (S36))) 0) = some r := h
  clear h
  obtain ⟨y216, hy216⟩ : ∃ y_ : List (S36), y_ = (([] : List (S36))) := ⟨_, rfl⟩
  replace H : (registrarlaw07_some.l0 k l0 y216 0) = some r := by first | (rw [hy216]; with_reducible exact H) | (have H2_ := (Option.bind_some _ _).symm.trans H; rw [hy216]; with_reducible exact H2_) | (have H2_ := (Option.bind_some _ _).symm.trans H; with_reducible exact H2_) | with_reducible exact H | (rw [hy216]; exact H) | exact H
  have Ny216 := Aside0.mk hy216
  clear hy216
  have H' := Aside0.mk H
  clear H
  go_enter Try.func14, Try.ntmps14
  go_wp2_with (first | ((with_reducible refine gate_dst (N := 6) rfl ?_); refine Kd.N_lit k36 _ 36 ?hg (N' := 6) ?hd (xs := ([] : List (S36))) (inner := []) (ok := (fun k_ => (P0_ k_ ∨ w.heap.size ≤ k_))) (okp := (fun k_ => (P0_ k_ ∨ w.heap.size ≤ k_))) ?hr ?hp (fun _ hk => hk) ((show ∀ k_, w.heap.size ≤ k_ → (fun k_ => (P0_ k_ ∨ w.heap.size ≤ k_)) k_ from fun k_ hk => (.inr (Nat.le_trans (below_size (by repeat (first | (with_reducible first | exact HB.out | apply below_alloc | apply pw_below_drewN | apply below_drew1) | exact HB.out))) hk))) _ (Nat.le_refl _)) (Below.refl _ _) (Nat.le_refl _) (by simp) ?_; (case hd => rfl); (case hg => rfl); (case hr => first | (go_simp; done) | (go_simp; rfl)); (case hp => exact (Reps.none _ _)); intro v217 w2 ho3 hb hg_ hnew_; clear hg_ hnew_; (first | rw [← Ny216.out] at ho3 | (simp only [Int.reduceToNat] at ho3; rw [← Ny216.out] at ho3)); have n0_ := Aside0.mk (Kd.V_elder' (by (with_reducible repeat (first | apply Kd.V_alloc | apply Kd.V_drewN | apply Kd.V_drew)); exact HO0.out) (Kd.N_base ho3) hb); have n1_ := Aside0.mk (Kd.N_lower ho3 (below_size (by repeat (first | (with_reducible first | exact HB.out | apply below_alloc | apply pw_below_drewN | apply below_drew1) | exact HB.out)))); have n2_ := Aside0.mk (below_step (by repeat (first | (with_reducible first | exact HB.out | apply below_alloc | apply pw_below_drewN | apply below_drew1) | exact HB.out)) hb); clear HO0; clear HB; have HO0 := n0_; have HO218 := n1_; have HB := n2_; clear n0_ n1_ n2_; clear hb ho3))
  go_loopg [3, 4] k (fun kq v3 v4 w' => ∃ (x3_1 : List (S36)) (x4_1 : Int), v4 = .int .i64 x4_1 ∧ Aside0 (registrarlaw07_some.l0 kq l0 x3_1 x4_1 = some r) ∧ Aside0 (kq ≤ k) ∧ Aside0 (Kd.V k36 36 w' w.heap.size (fun k_ => (P0_ k_ ∨ w.heap.size ≤ k_) ∧ some k_ ≠ (v3 : Value).ownBlock) (.slice A0 l0.length c0) l0) ∧ Aside0 (Kd.N k36 36 w' w.heap.size (fun k_ => (P0_ k_ ∨ w.heap.size ≤ k_)) v3 x3_1) ∧ Aside0 (Below w.heap.size w w'))
  case atStart => exact ⟨(y216), (0), (by first | rfl | (simp; done) | (simp [*]; done)), H', ⟨Nat.le_refl _⟩, ⟨by (with_reducible repeat (first | apply Kd.V_alloc | apply Kd.V_drewN | apply Kd.V_drew)); exact HO0.out⟩, ⟨by (with_reducible repeat (first | apply Kd.N_alloc | apply Kd.N_drewN | apply Kd.N_drew)); exact HO218.out⟩, ⟨by repeat (first | (with_reducible first | exact HB.out | apply below_alloc | apply pw_below_drewN | apply below_drew1) | exact HB.out)⟩⟩
  case round =>
    clear H'
    try clear c1
    try clear p2
    obtain ⟨x3_1, x4_1, rfl, HA, HK1, HO_0, HO_3, HB⟩ := hrel
    cases gk with
    | zero => exact absurd HA.out (by simp [registrarlaw07_some.l0])
    | succ k1 =>
      have H := HA.out
      clear HA
      simp only [registrarlaw07_some.l0] at H
      by_cases c4 : x4_1 < (l0.length : Int)
      · rw [if_pos c4] at H
        have c4b0 : decide (x4_1 < (l0.length : Int)) = true := decide_eq_true c4
        clear c4
        by_cases c5 : x4_1 < 6
        · rw [if_pos c5] at H
          have c5b0 : decide (x4_1 < 6) = true := decide_eq_true c5
          clear c5
          by_cases c6 : 0 ≤ x4_1
          · rw [if_pos c6] at H
            have c6b0 : decide (0 ≤ x4_1) = true := decide_eq_true c6
            clear c6
            replace H := Option.bind_eq_some_iff.mp H
            obtain ⟨t221, A70, H⟩ := H
            replace H : (if x3_1.length < 2932031007402 then (registrarlaw07_some.l0 k1 l0 (x3_1 ++ [(⟨(rd_T36 l0 x4_1).f0, (rd_T36 l0 x4_1).f1, (⟨t221⟩ : S25)⟩ : S36)]) (wrap64 (x4_1 + 1))) else (none)) = some r := H
            have A7 := Aside0.mk A70
            clear A70
            by_cases c8 : x3_1.length < 2932031007402
            · rw [if_pos c8] at H
              have LMc8 := Aside0.mk c8
              clear c8
              obtain ⟨y224, hy224⟩ : ∃ y_ : List (S36), y_ = (x3_1 ++ [(⟨(rd_T36 l0 x4_1).f0, (rd_T36 l0 x4_1).f1, (⟨t221⟩ : S25)⟩ : S36)]) := ⟨_, rfl⟩
              replace H : (registrarlaw07_some.l0 k1 l0 y224 (wrap64 (x4_1 + 1))) = some r := by first | (rw [hy224]; with_reducible exact H) | (have H2_ := (Option.bind_some _ _).symm.trans H; rw [hy224]; with_reducible exact H2_) | (have H2_ := (Option.bind_some _ _).symm.trans H; with_reducible exact H2_) | with_reducible exact H | (rw [hy224]; exact H) | exact H
              have Ny224 := Aside0.mk hy224
              clear hy224
              have H' := Aside0.mk H
              clear H
              have p219 : 0 ≤ (x4_1 : Int) := of_decide_eq_true (by first | (with_reducible assumption) | assumption)
              have q219 : x4_1 < (l0.length : Int) := of_decide_eq_true (by first | (with_reducible assumption) | assumption)
              obtain ⟨ad219, A219_2, c219_2, e219, hx219_0, hx219_1, hx219_2, hl219_2, hi219_2⟩ := at_T36 (Kd.V_reads' HO_0.out).2.2 x4_1 p219 q219
              cases e219
              obtain ⟨ce219, hce219, hMe219, hcc219⟩ := Kd.V_get HO_0.out z36 x4_1 p219 (by first | exact q219 | exact of_decide_eq_true (by first | (with_reducible assumption) | assumption) | (have e_ := (Kd.V_reads' HO_0.out).1; omega))
              obtain ⟨ua219_2, uc219_2, rfl, ul219_2, ge219_2⟩ := k36_openF hMe219
              have hv219_2 := hcc219 2 _ rfl
              rw [add_field _ _ 2 (by omega)] at hv219_2
              replace hv219_2 := Option.some.inj (hv219_2.symm.trans hx219_2)
              injection hv219_2 with hva_ hvn_ hvc_
              rw [hva_] at ge219_2
              rw [hvc_] at ul219_2
              have HL219_2 := Aside0.mk (show Kd.V k60 60 _ w.heap.size _ _ ((rd_T36 l0 x4_1).f2.f0) from Kd.V_mk ul219_2 ge219_2)
              clear hva_ hvn_ hvc_ ge219_2 ul219_2
              clear hcc219 hce219
              have HR219_2 := Aside0.mk hi219_2
              have HC219_2 := Aside0.mk hl219_2
              clear hi219_2 hl219_2
              replace p219 := eq_true p219
              replace q219 := eq_true q219
              go_wp2_with (first | ((with_reducible refine gate_dst (N := 5) rfl ?_); refine box_event ?hg (N := 5) ?hd (cs := #[.int .i64 0, .string (⟨#[]⟩ : ByteArray), .slice none 0 0]) (t := 36) ?hr ?_; (case hd => rfl); (case hg => rfl); (case hr => first | (go_simp; done) | (go_simp; rfl)); intro gb220 hg w9 hbox hb; have n0_ := Aside0.mk (Kd.V_below (Kd.V_elderB (by (with_reducible repeat (first | apply Kd.V_alloc | apply Kd.V_drewN | apply Kd.V_drew)); exact HO_0.out) gb220 (Nat.le_of_eq hg.symm)) hb); have n1_ := Aside0.mk (Kd.N_below (Kd.N_elderB (by (with_reducible repeat (first | apply Kd.N_alloc | apply Kd.N_drewN | apply Kd.N_drew)); exact HO_3.out) gb220 (Nat.le_of_eq hg.symm)) hb); have n2_ := Aside0.mk (Kd.V_below (Kd.V_elderB (by (with_reducible repeat (first | apply Kd.V_alloc | apply Kd.V_drewN | apply Kd.V_drew)); exact HL219_2.out) gb220 (Nat.le_of_eq hg.symm)) hb); have n3_ := Aside0.mk (Kd.C_below (by repeat (first | (with_reducible exact HR219_2.out) | (with_reducible refine Kd.C_alloc ?_ _) | (with_reducible refine Kd.C_drewN ?_ _) | (with_reducible refine Kd.C_drew ?_) | exact HR219_2.out | exact (Kd.V_reads' HL219_2.out).2.2)) hb); have n4_ := Aside0.mk (below_step (by repeat (first | (with_reducible first | exact HB.out | apply below_alloc | apply pw_below_drewN | apply below_drew1) | exact HB.out)) hb); have n5_ := Aside0.mk (hbox); have n6_ := Aside0.mk ((by rw [hg]; exact (below_size (by repeat (first | (with_reducible first | exact HB.out | apply below_alloc | apply pw_below_drewN | apply below_drew1) | exact HB.out))) : w.heap.size ≤ gb220)); have n7_ := Aside0.mk ((by rw [hg]; exact (below_size (by repeat (first | (with_reducible first | exact HB.out | apply below_alloc | apply pw_below_drewN | apply below_drew1) | exact HB.out))) : w.heap.size ≤ gb220)); clear HO_0; clear HO_3; clear HL219_2; clear HR219_2; clear HB; have HO_0 := n0_; have HO_3 := n1_; have HL219_2 := n2_; have HR219_2 := n3_; have HB := n4_; have BK220 := n5_; have GW220 := n6_; have GE220 := n7_; clear n0_ n1_ n2_ n3_ n4_ n5_ n6_ n7_; clear hb hbox hg; have hcz10_0 : w9.cell? ⟨gb220, 0, none⟩ = some (.int .i64 0) := (blk_cell BK220.out 0).trans rfl; have hcz10_1 : w9.cell? ⟨gb220, 1, none⟩ = some (.string (⟨#[]⟩ : ByteArray)) := (blk_cell BK220.out 1).trans rfl; have hcz10_2 : w9.cell? ⟨gb220, 2, none⟩ = some (.slice none 0 0) := (blk_cell BK220.out 2).trans rfl; have hfz10_0 := blk_frozen BK220.out 0; have hfz10_1 := blk_frozen BK220.out 1; have hfz10_2 := blk_frozen BK220.out 2) | ((with_reducible refine gate_store (t := 36) (p := 5) rfl ?_); refine store_event (t := 36) (p := 5) (v := ?vo_w11) (w1 := (((w9.setCell ⟨gb220, 0, none⟩ (.int .i64 ((rd_T36 l0 x4_1).f0))).setCell ⟨gb220, 1, none⟩ (.string ((rd_T36 l0 x4_1).f1))).setCell ⟨gb220, 2, none⟩ (.slice A219_2 ((rd_T36 l0 x4_1).f2.f0).length c219_2))) ?hg ?ho ?hn ?hr ?_; (case ho => rfl); (case hg => rfl); (case hn => rfl); (case hr => first | (go_simp; done) | (go_simp; rfl)); intro w11 hw; have n0_ : Aside0 (Kd.V k36 36 w11 w.heap.size (fun k_ => (P0_ k_ ∨ w.heap.size ≤ k_) ∧ some k_ ≠ (u3 : Value).ownBlock ∧ k_ ≠ gb220) (.slice (some ad219) l0.length c0) l0) := ⟨(by rw [hw]; exact (by (with_reducible repeat (first | apply Kd.V_alloc | apply Kd.V_drewN | apply Kd.V_drew)); exact Kd.V_mono (Kd.V_far (p := ⟨gb220, 2, none⟩) (Kd.V_far (p := ⟨gb220, 1, none⟩) (Kd.V_far (p := ⟨gb220, 0, none⟩) (Kd.V_mono HO_0.out (fun k_ hk => (⟨hk, hk.2⟩ : _ ∧ k_ ≠ gb220))) (fun _ hk => hk.2) (.int .i64 ((rd_T36 l0 x4_1).f0))) (fun _ hk => hk.2) (.string ((rd_T36 l0 x4_1).f1))) (fun _ hk => hk.2) (.slice A219_2 ((rd_T36 l0 x4_1).f2.f0).length c219_2)) (fun _ hk => ⟨hk.1.1.1, ⟨hk.1.1.2, hk.1.2⟩⟩)))⟩; have n1_ : Aside0 (Kd.N k36 36 w11 w.heap.size (fun k_ => (P0_ k_ ∨ w.heap.size ≤ k_) ∧ k_ ≠ gb220) u3 x3_1) := ⟨(by rw [hw]; exact (by (with_reducible repeat (first | apply Kd.N_alloc | apply Kd.N_drewN | apply Kd.N_drew)); exact Kd.N_mono (Kd.N_far (p := ⟨gb220, 2, none⟩) (Kd.N_far (p := ⟨gb220, 1, none⟩) (Kd.N_far (p := ⟨gb220, 0, none⟩) (Kd.N_mono HO_3.out (fun k_ hk => (⟨hk, hk.2⟩ : _ ∧ k_ ≠ gb220))) (fun _ hk => hk.2) (.int .i64 ((rd_T36 l0 x4_1).f0))) (fun _ hk => hk.2) (.string ((rd_T36 l0 x4_1).f1))) (fun _ hk => hk.2) (.slice A219_2 ((rd_T36 l0 x4_1).f2.f0).length c219_2)) (fun _ hk => ⟨hk.1.1, hk.1.2⟩)))⟩; have n2_ : Aside0 (Kd.V k60 60 w11 w.heap.size (fun k_ => (P0_ k_ ∨ w.heap.size ≤ k_) ∧ some k_ ≠ (u3 : Value).ownBlock ∧ k_ ≠ gb220) (.slice A219_2 ((rd_T36 l0 x4_1).f2.f0).length c219_2) ((rd_T36 l0 x4_1).f2.f0)) := ⟨(by rw [hw]; exact (by (with_reducible repeat (first | apply Kd.V_alloc | apply Kd.V_drewN | apply Kd.V_drew)); exact Kd.V_mono (Kd.V_far (p := ⟨gb220, 2, none⟩) (Kd.V_far (p := ⟨gb220, 1, none⟩) (Kd.V_far (p := ⟨gb220, 0, none⟩) (Kd.V_mono HL219_2.out (fun k_ hk => (⟨hk, hk.2⟩ : _ ∧ k_ ≠ gb220))) (fun _ hk => hk.2) (.int .i64 ((rd_T36 l0 x4_1).f0))) (fun _ hk => hk.2) (.string ((rd_T36 l0 x4_1).f1))) (fun _ hk => hk.2) (.slice A219_2 ((rd_T36 l0 x4_1).f2.f0).length c219_2)) (fun _ hk => ⟨hk.1.1.1, ⟨hk.1.1.2, hk.1.2⟩⟩)))⟩; have n3_ : Aside0 (w11.heap[gb220]? = some (.cells #[.int .i64 ((rd_T36 l0 x4_1).f0), .string ((rd_T36 l0 x4_1).f1), .slice A219_2 ((rd_T36 l0 x4_1).f2.f0).length c219_2] 36 (0, 0))) := ⟨(by rw [hw]; exact (by (with_reducible repeat (first | refine blk_drewN ?_ _ | refine blk_drew ?_ | refine blk_alloc ?_ _)); refine blk_put (cs := #[.int .i64 ((rd_T36 l0 x4_1).f0), .string ((rd_T36 l0 x4_1).f1), .slice none 0 0]) ?_ 2 _ rfl; (with_reducible repeat (first | refine blk_drewN ?_ _ | refine blk_drew ?_ | refine blk_alloc ?_ _)); refine blk_put (cs := #[.int .i64 ((rd_T36 l0 x4_1).f0), .string (⟨#[]⟩ : ByteArray), .slice none 0 0]) ?_ 1 _ rfl; (with_reducible repeat (first | refine blk_drewN ?_ _ | refine blk_drew ?_ | refine blk_alloc ?_ _)); refine blk_put (cs := #[.int .i64 0, .string (⟨#[]⟩ : ByteArray), .slice none 0 0]) ?_ 0 _ rfl; (with_reducible repeat (first | refine blk_drewN ?_ _ | refine blk_drew ?_ | refine blk_alloc ?_ _)); exact BK220.out))⟩; have n4_ : Aside0 (Below w.heap.size w w11) := ⟨(by rw [hw]; exact (by repeat (first | (with_reducible first | exact HB.out | apply below_alloc | apply pw_below_drewN | apply below_drew1 | refine below_set ?_ GE220.out) | exact HB.out)))⟩; clear hw; clear HO_0; clear HO_3; clear HL219_2; clear BK220; clear HB; have HO_0 := n0_; have HO_3 := n1_; have HL219_2 := n2_; have BK220 := n3_; have HB := n4_; clear n0_ n1_ n2_ n3_ n4_; have hcz12_0 : w11.cell? ⟨gb220, 0, none⟩ = some (.int .i64 ((rd_T36 l0 x4_1).f0)) := (blk_cell BK220.out 0).trans rfl; have hcz12_1 : w11.cell? ⟨gb220, 1, none⟩ = some (.string ((rd_T36 l0 x4_1).f1)) := (blk_cell BK220.out 1).trans rfl; have hcz12_2 : w11.cell? ⟨gb220, 2, none⟩ = some (.slice A219_2 ((rd_T36 l0 x4_1).f2.f0).length c219_2) := (blk_cell BK220.out 2).trans rfl; have hfz12_0 := blk_frozen BK220.out 0; have hfz12_1 := blk_frozen BK220.out 1; have hfz12_2 := blk_frozen BK220.out 2) | ((with_reducible refine gate_callee (f := 11) rfl ?_); refine goesL_ (some 23) rfl rfl Try.func11 (by kernel_rfl) rfl #[.agg #[.slice A219_2 ((rd_T36 l0 x4_1).f2.f0).length c219_2]] rfl (by (try simp only [List.map_toArray, List.map_cons, List.map_nil]); first | done | rfl | (simp only [List.length_drop, List.length_take]; rfl)) ?_; (with_reducible refine (registrarlaw07_few.calls k1 (fun k_ => ((P0_ k_ ∨ w.heap.size ≤ k_) ∧ (some k_ ≠ (u3 : Value).ownBlock ∧ k_ ≠ gb220))) _ _ ((rd_T36 l0 x4_1).f2.f0) t221 _ ?side1 A7.out).mono ?_); (case side1 => exact HL219_2.out); rintro e w13 ⟨v222, rfl, ho0, hb⟩; refine ⟨_, rfl, ?_⟩; have n0_ := Aside0.mk (Kd.V_elder' (by (with_reducible repeat (first | apply Kd.V_alloc | apply Kd.V_drewN | apply Kd.V_drew)); exact HO_0.out) (Kd.N_base ho0) hb); have n1_ := Aside0.mk (Kd.N_elder' (by (with_reducible repeat (first | apply Kd.N_alloc | apply Kd.N_drewN | apply Kd.N_drew)); exact HO_3.out) (Kd.N_base ho0) hb); have n2_ := Aside0.mk (Kd.V_elder' (by (with_reducible repeat (first | apply Kd.V_alloc | apply Kd.V_drewN | apply Kd.V_drew)); exact HL219_2.out) (Kd.N_base ho0) hb); have n3_ := Aside0.mk (Kd.N_lower (Kd.N_mono (ok' := fun k_ => (P0_ k_ ∨ w.heap.size ≤ k_) ∧ some k_ ≠ (u3 : Value).ownBlock ∧ k_ ≠ gb220) ho0 (fun k_ hk_ => ⟨Or.elim hk_ (fun hs_ => hs_.1) (fun hn_ => (.inr (Nat.le_trans (below_size (by repeat (first | (with_reducible first | exact HB.out | apply below_alloc | apply pw_below_drewN | apply below_drew1 | refine below_set ?_ GE220.out) | exact HB.out))) hn_))), Or.elim hk_ (fun hs_ => hs_.2.1) (fun hn_ => (Kd.fresh' (Kd.N_lt (by (with_reducible repeat (first | apply Kd.N_alloc | apply Kd.N_drewN | apply Kd.N_drew)); exact HO_3.out)) k_ hn_)), Or.elim hk_ (fun hs_ => hs_.2.2) (fun hn_ => (Kd.freshB (g := gb220) (o := .cells #[.int .i64 ((rd_T36 l0 x4_1).f0), .string ((rd_T36 l0 x4_1).f1), .slice A219_2 ((rd_T36 l0 x4_1).f2.f0).length c219_2] 36 (0, 0)) (by (with_reducible repeat (first | refine blk_drewN ?_ _ | refine blk_drew ?_ | refine blk_alloc ?_ _)); exact BK220.out) k_ hn_))⟩)) (below_size (by repeat (first | (with_reducible first | exact HB.out | apply below_alloc | apply pw_below_drewN | apply below_drew1 | refine below_set ?_ GE220.out) | exact HB.out)))); have n4_ := Aside0.mk (Kd.C_below (by repeat (first | (with_reducible exact HR219_2.out) | (with_reducible refine Kd.C_alloc ?_ _) | (with_reducible refine Kd.C_drewN ?_ _) | (with_reducible refine Kd.C_drew ?_) | exact HR219_2.out | exact (Kd.V_reads' HL219_2.out).2.2)) hb); have n5_ := Aside0.mk (blk_below (g := gb220) (o := .cells #[.int .i64 ((rd_T36 l0 x4_1).f0), .string ((rd_T36 l0 x4_1).f1), .slice A219_2 ((rd_T36 l0 x4_1).f2.f0).length c219_2] 36 (0, 0)) (by (with_reducible repeat (first | refine blk_drewN ?_ _ | refine blk_drew ?_ | refine blk_alloc ?_ _)); exact BK220.out) hb); have n6_ := Aside0.mk (below_step (by repeat (first | (with_reducible first | exact HB.out | apply below_alloc | apply pw_below_drewN | apply below_drew1 | refine below_set ?_ GE220.out) | exact HB.out)) hb); clear HO_0; clear HO_3; clear HL219_2; clear HR219_2; clear BK220; clear HB; have HO_0 := n0_; have HO_3 := n1_; have HL219_2 := n2_; have HO223 := n3_; have HR219_2 := n4_; have BK220 := n5_; have HB := n6_; clear n0_ n1_ n2_ n3_ n4_ n5_ n6_; (try clear hb); (try clear hb2); (try clear hk); (try clear hi); (try clear ho0); obtain ⟨Ao14, co14, eo14⟩ := Kd.N_slice HO223.out; subst eo14; have hcz15_0 : w13.cell? ⟨gb220, 0, none⟩ = some (.int .i64 ((rd_T36 l0 x4_1).f0)) := (blk_cell BK220.out 0).trans rfl; have hcz15_1 : w13.cell? ⟨gb220, 1, none⟩ = some (.string ((rd_T36 l0 x4_1).f1)) := (blk_cell BK220.out 1).trans rfl; have hcz15_2 : w13.cell? ⟨gb220, 2, none⟩ = some (.slice A219_2 ((rd_T36 l0 x4_1).f2.f0).length c219_2) := (blk_cell BK220.out 2).trans rfl; have hfz15_0 := blk_frozen BK220.out 0; have hfz15_1 := blk_frozen BK220.out 1; have hfz15_2 := blk_frozen BK220.out 2) | ((with_reducible refine gate_store (t := 25) (p := 24) rfl ?_); refine store_event (t := 25) (p := 24) (v := ?vo_w16) (w1 := (w13.setCell ⟨gb220, 2, none⟩ (.slice Ao14 t221.length co14))) ?hg ?ho ?hn ?hr ?_; (case ho => rfl); (case hg => rfl); (case hn => rfl); (case hr => first | (go_simp; done) | (go_simp; rfl)); intro w16 hw; have n0_ : Aside0 (Kd.V k36 36 w16 w.heap.size (fun k_ => (P0_ k_ ∨ w.heap.size ≤ k_) ∧ some k_ ≠ (u3 : Value).ownBlock ∧ some k_ ≠ (.slice Ao14 t221.length co14 : Value).ownBlock ∧ k_ ≠ gb220) (.slice (some ad219) l0.length c0) l0) := ⟨(by rw [hw]; exact (by (with_reducible repeat (first | apply Kd.V_alloc | apply Kd.V_drewN | apply Kd.V_drew)); exact Kd.V_mono (Kd.V_far (p := ⟨gb220, 2, none⟩) (Kd.V_mono HO_0.out (fun k_ hk => (⟨hk, hk.1.2.2⟩ : _ ∧ k_ ≠ gb220))) (fun _ hk => hk.2) (.slice Ao14 t221.length co14)) (fun _ hk => ⟨hk.1.1.1, ⟨hk.1.1.2.1, ⟨hk.1.2, hk.1.1.2.2⟩⟩⟩)))⟩; have n1_ : Aside0 (Kd.N k36 36 w16 w.heap.size (fun k_ => (P0_ k_ ∨ w.heap.size ≤ k_) ∧ some k_ ≠ (.slice Ao14 t221.length co14 : Value).ownBlock ∧ k_ ≠ gb220) u3 x3_1) := ⟨(by rw [hw]; exact (by (with_reducible repeat (first | apply Kd.N_alloc | apply Kd.N_drewN | apply Kd.N_drew)); exact Kd.N_mono (Kd.N_far (p := ⟨gb220, 2, none⟩) (Kd.N_mono HO_3.out (fun k_ hk => (⟨hk, hk.1.2⟩ : _ ∧ k_ ≠ gb220))) (fun _ hk => hk.2) (.slice Ao14 t221.length co14)) (fun _ hk => ⟨hk.1.1.1, ⟨hk.1.2, hk.1.1.2⟩⟩)))⟩; have n2_ : Aside0 (Kd.V k60 60 w16 w.heap.size (fun k_ => (P0_ k_ ∨ w.heap.size ≤ k_) ∧ some k_ ≠ (u3 : Value).ownBlock ∧ some k_ ≠ (.slice Ao14 t221.length co14 : Value).ownBlock ∧ k_ ≠ gb220) (.slice A219_2 ((rd_T36 l0 x4_1).f2.f0).length c219_2) ((rd_T36 l0 x4_1).f2.f0)) := ⟨(by rw [hw]; exact (by (with_reducible repeat (first | apply Kd.V_alloc | apply Kd.V_drewN | apply Kd.V_drew)); exact Kd.V_mono (Kd.V_far (p := ⟨gb220, 2, none⟩) (Kd.V_mono HL219_2.out (fun k_ hk => (⟨hk, hk.1.2.2⟩ : _ ∧ k_ ≠ gb220))) (fun _ hk => hk.2) (.slice Ao14 t221.length co14)) (fun _ hk => ⟨hk.1.1.1, ⟨hk.1.1.2.1, ⟨hk.1.2, hk.1.1.2.2⟩⟩⟩)))⟩; have n3_ : Aside0 (Kd.N k60 60 w16 w.heap.size (fun k_ => (P0_ k_ ∨ w.heap.size ≤ k_) ∧ some k_ ≠ (u3 : Value).ownBlock ∧ k_ ≠ gb220) (.slice Ao14 t221.length co14) t221) := ⟨(by rw [hw]; exact (by (with_reducible repeat (first | apply Kd.N_alloc | apply Kd.N_drewN | apply Kd.N_drew)); exact Kd.N_mono (Kd.N_far (p := ⟨gb220, 2, none⟩) (Kd.N_mono HO223.out (fun k_ hk => (⟨hk, hk.2.2⟩ : _ ∧ k_ ≠ gb220))) (fun _ hk => hk.2) (.slice Ao14 t221.length co14)) (fun _ hk => ⟨hk.1.1, ⟨hk.1.2.1, hk.1.2.2⟩⟩)))⟩; have n4_ : Aside0 (w16.heap[gb220]? = some (.cells #[.int .i64 ((rd_T36 l0 x4_1).f0), .string ((rd_T36 l0 x4_1).f1), .slice Ao14 t221.length co14] 36 (0, 0))) := ⟨(by rw [hw]; exact (by (with_reducible repeat (first | refine blk_drewN ?_ _ | refine blk_drew ?_ | refine blk_alloc ?_ _)); refine blk_put (cs := #[.int .i64 ((rd_T36 l0 x4_1).f0), .string ((rd_T36 l0 x4_1).f1), .slice A219_2 ((rd_T36 l0 x4_1).f2.f0).length c219_2]) ?_ 2 _ rfl; (with_reducible repeat (first | refine blk_drewN ?_ _ | refine blk_drew ?_ | refine blk_alloc ?_ _)); exact BK220.out))⟩; have n5_ : Aside0 (Below w.heap.size w w16) := ⟨(by rw [hw]; exact (by repeat (first | (with_reducible first | exact HB.out | apply below_alloc | apply pw_below_drewN | apply below_drew1 | refine below_set ?_ GE220.out) | exact HB.out)))⟩; clear hw; clear HO_0; clear HO_3; clear HL219_2; clear HO223; clear BK220; clear HB; have HO_0 := n0_; have HO_3 := n1_; have HL219_2 := n2_; have HO223 := n3_; have BK220 := n4_; have HB := n5_; clear n0_ n1_ n2_ n3_ n4_ n5_; have hcz17_0 : w16.cell? ⟨gb220, 0, none⟩ = some (.int .i64 ((rd_T36 l0 x4_1).f0)) := (blk_cell BK220.out 0).trans rfl; have hcz17_1 : w16.cell? ⟨gb220, 1, none⟩ = some (.string ((rd_T36 l0 x4_1).f1)) := (blk_cell BK220.out 1).trans rfl; have hcz17_2 : w16.cell? ⟨gb220, 2, none⟩ = some (.slice Ao14 t221.length co14) := (blk_cell BK220.out 2).trans rfl; have hfz17_0 := blk_frozen BK220.out 0; have hfz17_1 := blk_frozen BK220.out 1; have hfz17_2 := blk_frozen BK220.out 2) | ((with_reducible refine gate_builtin (b := .append) (xs := #[.tmp 25, .tmp 27]) rfl ?_); at_builtin; refine Kd.N_append k36 (w0 := w) w.heap.size rfl (.tmp 25) (.tmp 27) 26 36 (.agg #[(.int .i64 0), (.string ⟨#[]⟩), (.slice none 0 0)]) 48 rfl Try.underlying26 info36 rfl (by decide) (by omega) u3 x3_1 (⟨(rd_T36 l0 x4_1).f0, (rd_T36 l0 x4_1).f1, (⟨t221⟩ : S25)⟩ : S36) [.int .i64 ((rd_T36 l0 x4_1).f0), .string ((rd_T36 l0 x4_1).f1), .slice Ao14 t221.length co14] (fun k_ => (P0_ k_ ∨ w.heap.size ≤ k_) ∧ k_ ≠ gb220) (fun k_ => ((fun k_ => (P0_ k_ ∨ w.heap.size ≤ k_) ∧ k_ ≠ gb220)) k_ ∧ some k_ ≠ (u3 : Value).ownBlock) rfl rfl ?aP (fun _ hk => hk) ?aF ?aO ?aB ?aS ?aL ?_; (case aP => exact (k36_mkF _ _ (⟨(rd_T36 l0 x4_1).f0, (rd_T36 l0 x4_1).f1, (⟨t221⟩ : S25)⟩ : S36) (Kd.N_reads' (Kd.N_mono (ok' := (fun k_ => ((fun k_ => (P0_ k_ ∨ w.heap.size ≤ k_) ∧ k_ ≠ gb220)) k_ ∧ some k_ ≠ (u3 : Value).ownBlock)) (HO223.out) (fun k_ hk => ⟨⟨hk.1, hk.2.2⟩, hk.2.1⟩))).2.1 (Kd.N_F (Kd.N_mono (ok' := (fun k_ => ((fun k_ => (P0_ k_ ∨ w.heap.size ≤ k_) ∧ k_ ≠ gb220)) k_ ∧ some k_ ≠ (u3 : Value).ownBlock)) (HO223.out) (fun k_ hk => ⟨⟨hk.1, hk.2.2⟩, hk.2.1⟩))))); (case aB => exact (by repeat (first | (with_reducible first | exact HB.out | apply below_alloc | apply pw_below_drewN | apply below_drew1 | refine below_set ?_ GE220.out) | exact HB.out))); (case aF => exact (fun k_ hk => ⟨(.inr (Nat.le_trans (below_size (by repeat (first | (with_reducible first | exact HB.out | apply below_alloc | apply pw_below_drewN | apply below_drew1 | refine below_set ?_ GE220.out) | exact HB.out))) hk)), Kd.freshB (g := gb220) (o := .cells #[.int .i64 ((rd_T36 l0 x4_1).f0), .string ((rd_T36 l0 x4_1).f1), .slice Ao14 t221.length co14] 36 (0, 0)) (by (with_reducible repeat (first | refine blk_drewN ?_ _ | refine blk_drew ?_ | refine blk_alloc ?_ _)); exact BK220.out) k_ hk⟩)); (case aO => exact (by (with_reducible repeat (first | apply Kd.N_alloc | apply Kd.N_drewN | apply Kd.N_drew)); exact Kd.N_mono HO_3.out (fun _ hk => ⟨hk.1, hk.2.2⟩))); (case aS => exact (below_size (by repeat (first | (with_reducible first | exact HB.out | apply below_alloc | apply pw_below_drewN | apply below_drew1 | refine below_set ?_ GE220.out) | exact HB.out)))); (case aL => have := LMc8.out; omega); intro v225 w18 ho hb hg hat; rw [← Ny224.out] at ho; have n0_ := Aside0.mk (Kd.V_afterv (ok := (fun k_ => (P0_ k_ ∨ w.heap.size ≤ k_) ∧ some k_ ≠ (.slice Ao14 t221.length co14 : Value).ownBlock ∧ k_ ≠ gb220)) (by (with_reducible repeat (first | apply Kd.V_alloc | apply Kd.V_drewN | apply Kd.V_drew)); exact Kd.V_mono HO_0.out (fun _ hk => ⟨⟨hk.1, ⟨hk.2.2.1, hk.2.2.2⟩⟩, hk.2.1⟩)) hg hat); have n1_ := Aside0.mk (Kd.V_afterv (ok := (fun k_ => (P0_ k_ ∨ w.heap.size ≤ k_) ∧ some k_ ≠ (.slice Ao14 t221.length co14 : Value).ownBlock ∧ k_ ≠ gb220)) (by (with_reducible repeat (first | apply Kd.V_alloc | apply Kd.V_drewN | apply Kd.V_drew)); exact Kd.V_mono HL219_2.out (fun _ hk => ⟨⟨hk.1, ⟨hk.2.2.1, hk.2.2.2⟩⟩, hk.2.1⟩)) hg hat); have n2_ := Aside0.mk (blk_grown (g := gb220) (o := .cells #[.int .i64 ((rd_T36 l0 x4_1).f0), .string ((rd_T36 l0 x4_1).f1), .slice Ao14 t221.length co14] 36 (0, 0)) (by (with_reducible repeat (first | refine blk_drewN ?_ _ | refine blk_drew ?_ | refine blk_alloc ?_ _)); exact BK220.out) hg (Kd.N_away HO_3.out (fun _ hk => hk.2.2))); have n3_ := Aside0.mk (hb); have n4_ := Aside0.mk (ho); clear HO_0; clear HL219_2; clear BK220; clear HB; clear HO_3; clear HO223; have HO_0 := n0_; have HL219_2 := n1_; have BK220 := n2_; have HB := n3_; have HO226 := n4_; clear n0_ n1_ n2_ n3_ n4_; clear ho hb hg hat))
              go_roundg k1
              case measure => have := HK1.out; omega
              case rel => exact ⟨(y224), (wrap64 (x4_1 + 1)), (by first | rfl | (simp; done) | (simp [*]; done)), H', ⟨by have := HK1.out; omega⟩, ⟨by (with_reducible repeat (first | apply Kd.V_alloc | apply Kd.V_drewN | apply Kd.V_drew)); exact Kd.V_mono HO_0.out (fun _ hk => ⟨hk.1.1, hk.2⟩)⟩, ⟨by (with_reducible repeat (first | apply Kd.N_alloc | apply Kd.N_drewN | apply Kd.N_drew)); exact Kd.N_mono HO226.out (fun _ hk => hk.1)⟩, ⟨by repeat (first | (with_reducible first | exact HB.out | apply below_alloc | apply pw_below_drewN | apply below_drew1 | refine below_set ?_ GE220.out) | exact HB.out)⟩⟩
            · rw [if_neg c8] at H
              exact absurd H (by simp)
          · rw [if_neg c6] at H
            exact absurd H (by simp)
        · rw [if_neg c5] at H
          have c5b0 : decide (x4_1 < 6) = false := decide_eq_false c5
          clear c5
          obtain rfl := Option.some.inj H
          go_wp2
          go_ret
          exact ⟨_, by first | rfl | (simp [errW_none, errW_some] <;> rfl) | (simp [*, errW_none, errW_some] <;> rfl), by (with_reducible repeat (first | apply Kd.N_alloc | apply Kd.N_drewN | apply Kd.N_drew)); exact HO_3.out, by repeat (first | (with_reducible first | exact HB.out | apply below_alloc | apply pw_below_drewN | apply below_drew1) | exact HB.out)⟩
      · rw [if_neg c4] at H
        have c4b0 : decide (x4_1 < (l0.length : Int)) = false := decide_eq_false c4
        clear c4
        obtain rfl := Option.some.inj H
        go_wp2
        go_ret
        exact ⟨_, by first | rfl | (simp [errW_none, errW_some] <;> rfl) | (simp [*, errW_none, errW_some] <;> rfl), by (with_reducible repeat (first | apply Kd.N_alloc | apply Kd.N_drewN | apply Kd.N_drew)); exact HO_3.out, by repeat (first | (with_reducible first | exact HB.out | apply below_alloc | apply pw_below_drewN | apply below_drew1) | exact HB.out)⟩

end Go.Proofs.Ytdpigeineephlaa.Prt
namespace Go.Proofs.Ytdpigeineephlaa.Prt
open Go.RowKit Go.Proofs.YtdpigeineephlaaW.PrintWords Go.Proofs.YtdpigeineephlaaW.PrintLast Go.Proofs.YtdpigeineephlaaW.PrintMore Go.Proofs.Ytdpigeineephlaa.Num Go.Proofs.Ytdpigeineephlaa.Nam
set_option linter.unusedVariables false
set_option linter.unusedSimpArgs false

theorem qput_ok {b : List Int} {l : List S60} (hb : b.length ≤ 100000000000) (hf : l.all fitC = true) : qcode_Put.f b l = some (if mayQ l = 0 then (b ++ encQ l, 0) else ([], mayQ l)) := by
  have m1 : query_May.f l = some (mayQ l) := if_pos hf
  unfold qcode_Put.f
  rw [m1]
  simp only [Option.bind_some]
  by_cases h0 : mayQ l = 0
  · have hz := encQ_size (mayQ_zero.1 h0)
    have m2 : qcode_put.f b l = some (b ++ encQ l) := if_pos (by omega)
    rw [if_pos h0, if_pos h0, m2]; rfl
  · rw [if_neg h0, if_neg h0]
theorem okC_nil : OkC ⟨[], []⟩ := ⟨by simp, by simp, fun s hs => by simp at hs, fun s hs => by simp at hs, rfl, rfl⟩
theorem okQ_st : OkQ [⟨[], []⟩] := ⟨by decide, fun x hx => by rw [List.mem_singleton.1 hx]; exact okC_nil⟩
theorem encQ_st : encQ [⟨[], []⟩] = [2, 0, 0] := by
  show enc 1 ++ ((enc 0 ++ []) ++ (enc 0 ++ []) ++ []) = _
  rw [enc_0, enc_1]; rfl
theorem shown07 : registrarlaw07_shown.f = some true := by
  unfold registrarlaw07_shown.f
  rw [qput_ok (by decide) okQ_st.fit, if_pos (mayQ_zero.2 okQ_st), encQ_st]
  simp only [Option.bind_some, List.nil_append]
  rw [if_pos (by rw [strOfNums_toList]; rfl)]; rfl
def fewC (x : S60) : S60 := ⟨x.f0.take 8, x.f1.take 8⟩
def fewQ (l : List S60) : List S60 := (l.take 8).map fewC
theorem few07_j1 (k i : Nat) (l acc : List S60) (hi : i < l.length) (ha : acc.length ≤ 1000) (hi2 : i ≤ 1000) : registrarlaw07_few.j1 (k + 1) (i : Int) true l acc = registrarlaw07_few.l0 k ((i + 1 : Nat) : Int) l (acc ++ [fewC (rd_T60 l (i : Int))]) := by
  rw [registrarlaw07_few.j1, if_pos rfl, if_pos (by omega), if_pos (by omega), succW i (by omega)]
  unfold fewC
  generalize rd_T60 l (i : Int) = x
  obtain ⟨ts, fs⟩ := x
  simp only [Option.bind_some]
  by_cases h1 : (ts.length : Int) > 8
  · rw [if_pos h1, if_pos (by omega)]
    by_cases h2 : (fs.length : Int) > 8
    · rw [if_pos h2, if_pos (by omega), if_pos (by omega)]
    · rw [if_neg h2, if_pos (by omega), List.take_of_length_le (l := fs) (by omega)]
  · rw [if_neg h1, List.take_of_length_le (l := ts) (by omega)]
    by_cases h2 : (fs.length : Int) > 8
    · rw [if_pos h2, if_pos (by omega), if_pos (by omega)]
    · rw [if_neg h2, if_pos (by omega), List.take_of_length_le (l := fs) (by omega)]
theorem few07_loop (l : List S60) : ∀ (n i k : Nat) (acc : List S60), i + n = min 8 l.length → 2 * n + 2 < k → acc.length = i → registrarlaw07_few.l0 k (i : Int) l acc = some (acc ++ ((l.take 8).drop i).map fewC) := by
  intro n
  induction n with
  | zero =>
    intro i k acc hi hk ha
    obtain ⟨k, rfl⟩ : ∃ m, k = m + 2 := ⟨k - 2, by omega⟩
    rw [List.drop_eq_nil_of_le (by rw [List.length_take]; omega), List.map_nil, List.append_nil, registrarlaw07_few.l0]
    by_cases h : (i : Int) < (l.length : Int)
    · rw [if_pos h, decide_eq_false (by omega), registrarlaw07_few.j1, if_neg (by decide)]
    · rw [if_neg h, registrarlaw07_few.j1, if_neg (by decide)]
  | succ n ih =>
    intro i k acc hi hk ha
    obtain ⟨k, rfl⟩ : ∃ m, k = m + 2 := ⟨k - 2, by omega⟩
    rw [registrarlaw07_few.l0, if_pos (by omega), decide_eq_true (by omega), few07_j1 k i l acc (by omega) (by omega) (by omega), ih (i + 1) k _ (by omega) (by omega) (by simp [ha]), List.append_assoc]
    congr 2
    have hd : (l.take 8).drop i = rd_T60 l (i : Int) :: (l.take 8).drop (i + 1) := by
      rw [List.drop_eq_getElem_cons (by rw [List.length_take]; omega), List.getElem_take]
      unfold rd_T60
      rw [Int.toNat_natCast, List.getD_eq_getElem?_getD, List.getElem?_eq_getElem (by omega)]; rfl
    rw [hd, List.map_cons]; rfl
theorem few07 {k : Nat} (hk : 20 ≤ k) (l : List S60) : registrarlaw07_few.f k l = some (fewQ l) := by
  unfold registrarlaw07_few.f fewQ
  have := few07_loop l (min 8 l.length) 0 k [] (by omega) (by omega) rfl
  rwa [List.drop_zero, List.nil_append] at this
def fewD (x : S36) : S36 := ⟨x.f0, x.f1, ⟨fewQ x.f2.f0⟩⟩
def someD (l : List S36) : List S36 := (l.take 6).map fewD
theorem some07_loop (l : List S36) : ∀ (n i k : Nat) (acc : List S36), i + n = min 6 l.length → n + 21 < k → acc.length = i → registrarlaw07_some.l0 k l acc (i : Int) = some (acc ++ ((l.take 6).drop i).map fewD) := by
  intro n
  induction n with
  | zero =>
    intro i k acc hi hk ha
    obtain ⟨k, rfl⟩ : ∃ m, k = m + 1 := ⟨k - 1, by omega⟩
    rw [List.drop_eq_nil_of_le (by rw [List.length_take]; omega), List.map_nil, List.append_nil, registrarlaw07_some.l0]
    by_cases h : (i : Int) < (l.length : Int)
    · rw [if_pos h, if_neg (by omega)]
    · rw [if_neg h]
  | succ n ih =>
    intro i k acc hi hk ha
    obtain ⟨k, rfl⟩ : ∃ m, k = m + 1 := ⟨k - 1, by omega⟩
    rw [registrarlaw07_some.l0, if_pos (by omega), if_pos (by omega), if_pos (by omega), few07 (by omega)]
    simp only [Option.bind_some]
    rw [if_pos (by omega), succW i (by omega), ih (i + 1) k _ (by omega) (by omega) (by simp [ha]), List.append_assoc]
    congr 2
    have hd : (l.take 6).drop i = rd_T36 l (i : Int) :: (l.take 6).drop (i + 1) := by
      rw [List.drop_eq_getElem_cons (by rw [List.length_take]; omega), List.getElem_take]
      unfold rd_T36
      rw [Int.toNat_natCast, List.getD_eq_getElem?_getD, List.getElem?_eq_getElem (by omega)]; rfl
    rw [hd, List.map_cons]; rfl
theorem some07 {k : Nat} (hk : 30 ≤ k) (l : List S36) : registrarlaw07_some.f k l = some (someD l) := by
  unfold registrarlaw07_some.f someD
  have := some07_loop l (min 6 l.length) 0 k [] (by omega) (by omega) rfl
  rwa [List.drop_zero, List.nil_append] at this
/-- Texts that fit in a machine. -/
def FitsQ (l : List S60) : Prop := ∀ x ∈ l, (∀ s ∈ x.f0, s.size ≤ 9223372036854775807) ∧ (∀ s ∈ x.f1, s.size ≤ 9223372036854775807)
def FitsD (l : List S36) : Prop := ∀ x ∈ l, x.f1.size ≤ 9223372036854775807 ∧ FitsQ x.f2.f0
theorem fewQ_fit {l : List S60} (h : FitsQ l) : (fewQ l).all fitC = true := List.all_eq_true.2 fun x hx => by
  obtain ⟨y, hy, rfl⟩ := List.mem_map.1 hx
  obtain ⟨h1, h2⟩ := h y (List.mem_of_mem_take hy)
  exact fitC_iff.2 ⟨fun s hs => h1 s (List.mem_of_mem_take hs), fun s hs => h2 s (List.mem_of_mem_take hs)⟩
theorem someD_fit {l : List S36} (h : FitsD l) : (someD l).all fitD = true := List.all_eq_true.2 fun x hx => by
  obtain ⟨y, hy, rfl⟩ := List.mem_map.1 hx
  obtain ⟨h1, h2⟩ := h y (List.mem_of_mem_take hy)
  exact fitD_iff.2 ⟨fewQ_fit h2, h1⟩
theorem flat_part {α : Type} {f : α → List Int} {ok : α → Prop} (hf : ∀ x y r r', ok x → ok y → f x ++ r = f y ++ r' → x = y ∧ r = r') : ∀ (a b : List α) (r r' : List Int), (∀ x ∈ a, ok x) → (∀ x ∈ b, ok x) → a.length = b.length → a.flatMap f ++ r = b.flatMap f ++ r' → a = b ∧ r = r'
  | [], [], r, r', _, _, _, h => ⟨rfl, h⟩
  | x :: a, y :: b, r, r', ha, hb, hl, h => by
    rw [List.flatMap_cons, List.flatMap_cons, List.append_assoc, List.append_assoc] at h
    obtain ⟨h1, h2⟩ := hf x y _ _ (ha x (by simp)) (hb y (by simp)) h
    obtain ⟨h3, h4⟩ := flat_part hf a b r r' (fun z hz => ha z (by simp [hz])) (fun z hz => hb z (by simp [hz])) (by simpa using hl) h2
    exact ⟨by rw [h1, h3], h4⟩
  | [], _ :: _, _, _, _, _, hl, _ => by simp at hl
  | _ :: _, [], _, _, _, _, hl, _ => by simp at hl
theorem encL_part {a b : List ByteArray} {r r' : List Int} (ha : a.length ≤ 1000000) (hb : b.length ≤ 1000000) (hsa : ∀ x ∈ a, x.size ≤ 9223372036854775807) (hsb : ∀ x ∈ b, x.size ≤ 9223372036854775807) (h : encL a ++ r = encL b ++ r') : a = b ∧ r = r' := by
  unfold encL at h
  rw [List.append_assoc, List.append_assoc] at h
  obtain ⟨h1, h2⟩ := enc_part ⟨by omega, by omega⟩ ⟨by omega, by omega⟩ h
  exact encTs_part a b r r' hsa hsb (by omega) h2
theorem OkC.sizes {x : S60} (h : OkC x) : (∀ s ∈ x.f0, s.size ≤ 9223372036854775807) ∧ (∀ s ∈ x.f1, s.size ≤ 9223372036854775807) := fitC_iff.1 h.fit
theorem encC_part {x y : S60} {r r' : List Int} (hx : OkC x) (hy : OkC y) (h : encC x ++ r = encC y ++ r') : x = y ∧ r = r' := by
  have := hx.h0; have := hx.h1; have := hy.h0; have := hy.h1
  unfold encC at h
  rw [List.append_assoc, List.append_assoc] at h
  obtain ⟨h1, h2⟩ := encL_part (by omega) (by omega) hx.sizes.1 hy.sizes.1 h
  obtain ⟨h3, h4⟩ := encL_part (by omega) (by omega) hx.sizes.2 hy.sizes.2 h2
  refine ⟨?_, h4⟩
  cases x; cases y; simp_all
theorem encQ_part {a b : List S60} {r r' : List Int} (ha : OkQ a) (hb : OkQ b) (h : encQ a ++ r = encQ b ++ r') : a = b ∧ r = r' := by
  have := ha.h4; have := hb.h4
  unfold encQ at h
  rw [List.append_assoc, List.append_assoc] at h
  obtain ⟨h1, h2⟩ := enc_part ⟨by omega, by omega⟩ ⟨by omega, by omega⟩ h
  exact flat_part (ok := OkC) (fun x y r r' hx hy h => encC_part hx hy h) a b r r' ha.hc hb.hc (by omega) h2
theorem encD_part {x y : S36} {r r' : List Int} (hx : OkD x) (hy : OkD y) (h : encD x ++ r = encD y ++ r') : x = y ∧ r = r' := by
  have := hx.k1; have := hx.k4; have := hy.k1; have := hy.k4; have := hx.size; have := hy.size
  unfold encD at h
  simp only [List.append_assoc] at h
  obtain ⟨h1, h2⟩ := enc_part ⟨by omega, by omega⟩ ⟨by omega, by omega⟩ h
  obtain ⟨h3, h4⟩ := encT_part (by omega) (by omega) h2
  obtain ⟨h5, h6⟩ := encQ_part hx.hq hy.hq h4
  refine ⟨?_, h6⟩
  obtain ⟨a, b, ⟨c⟩⟩ := x
  obtain ⟨a', b', ⟨c'⟩⟩ := y
  simp_all
theorem encDs_part {a b : List S36} {r r' : List Int} (ha4 : a.length ≤ 4) (hb4 : b.length ≤ 4) (ha : ∀ x ∈ a, OkD x) (hb : ∀ x ∈ b, OkD x) (h : encDs a ++ r = encDs b ++ r') : a = b ∧ r = r' := by
  unfold encDs at h
  rw [List.append_assoc, List.append_assoc] at h
  obtain ⟨h1, h2⟩ := enc_part ⟨by omega, by omega⟩ ⟨by omega, by omega⟩ h
  exact flat_part (ok := OkD) (fun x y r r' hx hy h => encD_part hx hy h) a b r r' ha hb (by omega) h2
theorem flat_bytes {α : Type} {f : α → List Int} (hf : ∀ x, isBytes (f x)) : ∀ l : List α, isBytes (l.flatMap f)
  | [] => by intro c hc; simp at hc
  | x :: r => by rw [List.flatMap_cons]; exact isBytes_append.2 ⟨hf x, flat_bytes hf r⟩
theorem encL_bytes (l : List ByteArray) : isBytes (encL l) := isBytes_append.2 ⟨enc_bytes _, encTs_bytes l⟩
theorem encC_bytes (x : S60) : isBytes (encC x) := isBytes_append.2 ⟨encL_bytes _, encL_bytes _⟩
theorem encQ_bytes (l : List S60) : isBytes (encQ l) := isBytes_append.2 ⟨enc_bytes _, flat_bytes encC_bytes l⟩
theorem encD_bytes (x : S36) : isBytes (encD x) := isBytes_append.2 ⟨enc_bytes _, isBytes_append.2 ⟨isBytes_append.2 ⟨enc_bytes _, bytesOf_isBytes _⟩, encQ_bytes _⟩⟩
theorem encDs_bytes (l : List S36) : isBytes (encDs l) := isBytes_append.2 ⟨enc_bytes _, flat_bytes encD_bytes l⟩
theorem putDs_ok {l : List S36} (h : (putDs l).2 = 0) : l.length ≤ 4 ∧ (∀ x ∈ l, OkD x) ∧ putDs l = (encDs l, 0) := by
  unfold putDs at h ⊢
  by_cases c1 : 4 < l.length
  · rw [if_pos c1] at h; cases h
  rw [if_neg c1] at h ⊢
  by_cases c2 : firstD l ≠ 0
  · rw [if_pos c2] at h; exact absurd h c2
  rw [if_neg c2]
  exact ⟨by omega, firstD_zero.1 (by simpa using c2), rfl⟩
end Go.Proofs.Ytdpigeineephlaa.Prt
namespace Go.Proofs.Ytdpigeineephlaa.Prt
open Go.RowKit Go.Proofs.YtdpigeineephlaaW.PrintWords Go.Proofs.YtdpigeineephlaaW.PrintLast Go.Proofs.YtdpigeineephlaaW.PrintMore Go.Proofs.Ytdpigeineephlaa.Num Go.Proofs.Ytdpigeineephlaa.Nam
set_option linter.unusedVariables false
set_option linter.unusedSimpArgs false

/-- A step: what it takes, whether there is one, the bytes left, whether the reader is bad. -/
abbrev Stp (α : Type) : Type := List Int → Bool → (α × Bool) × List Int × Bool
def takeN {α : Type} (step : Stp α) : Nat → List Int → Bool → List α → (List α × Bool) × List Int × Bool
  | 0, l, b, acc => ((acc, !b), l, b)
  | n + 1, l, b, acc => if (step l b).1.2 = false ∨ (step l b).2.2 = true then (([], false), (step l b).2) else takeN step n (step l b).2.1 (step l b).2.2 (acc ++ [(step l b).1.1])
/-- A list taken, of so many at most. -/
def takeL {α : Type} (step : Stp α) (most : Int) (l : List Int) (b : Bool) : (List α × Bool) × List Int × Bool :=
  if numOf l < 0 ∨ most < numOf l then (([], false), aft l, badOf l b) else takeN step (numOf l).toNat (aft l) (badOf l b) []
def stepT : Stp ByteArray := fun l b => ((textOf l, true), aftT l, badT l b)
def stepC : Stp S60 := fun l b =>
  if (takeL stepT 4 l b).1.2 = false then ((⟨(takeL stepT 4 l b).1.1, []⟩, false), (takeL stepT 4 l b).2)
  else ((⟨(takeL stepT 4 l b).1.1, (takeL stepT 4 (takeL stepT 4 l b).2.1 (takeL stepT 4 l b).2.2).1.1⟩, (takeL stepT 4 (takeL stepT 4 l b).2.1 (takeL stepT 4 l b).2.2).1.2), (takeL stepT 4 (takeL stepT 4 l b).2.1 (takeL stepT 4 l b).2.2).2)
/-- A query taken: its clauses, the error, the bytes left, whether the reader is bad. -/
def takeQ (l : List Int) (b : Bool) : List S60 × Int × List Int × Bool :=
  if (takeL stepC 4 l b).1.2 = false ∨ mayQ (takeL stepC 4 l b).1.1 ≠ 0 then ([], 2, (takeL stepC 4 l b).2) else ((takeL stepC 4 l b).1.1, 0, (takeL stepC 4 l b).2)
def stepD : Stp S36 := fun l b => ((⟨numOf l, textOf (aft l), ⟨(takeQ (aftT (aft l)) (badT (aft l) (badOf l b))).1⟩⟩, decide ((takeQ (aftT (aft l)) (badT (aft l) (badOf l b))).2.1 = 0)), (takeQ (aftT (aft l)) (badT (aft l) (badOf l b))).2.2)
/-- Projections taken, and the error. -/
def takeDs (l : List Int) : List S36 × Int :=
  if (takeL stepD 4 l false).1.2 = false ∨ (putDs (takeL stepD 4 l false).1.1).2 ≠ 0 ∨ (putDs (takeL stepD 4 l false).1.1).1 ≠ l then ([], 2) else ((takeL stepD 4 l false).1.1, 0)

section
variable {α : Type} {step : Stp α} {e : α → List Int}
theorem takeN_enc {m : List α} (he : ∀ x ∈ m, ∀ r, step (e x ++ r) false = ((x, true), r, false)) (r : List Int) : ∀ acc, takeN step m.length (m.flatMap e ++ r) false acc = ((acc ++ m, true), r, false) := by
  induction m with
  | nil => intro acc; simp [takeN]
  | cons x t ih =>
    intro acc
    have h1 := he x (by simp) (t.flatMap e ++ r)
    rw [List.length_cons, List.flatMap_cons, List.append_assoc, takeN, h1, if_neg (by simp)]
    have h2 := ih (fun y hy => he y (by simp [hy])) (acc ++ [x])
    simp only
    rw [h2, List.append_assoc]; rfl
theorem takeL_enc {most : Int} {m : List α} (hm : (m.length : Int) ≤ most) (hs : m.length ≤ 1000000) (he : ∀ x ∈ m, ∀ r, step (e x ++ r) false = ((x, true), r, false)) (r : List Int) : takeL step most ((enc (m.length : Int) ++ m.flatMap e) ++ r) false = ((m, true), r, false) := by
  obtain ⟨a1, a2, a3⟩ := numOf_enc (x := (m.length : Int)) ⟨by omega, by omega⟩ (m.flatMap e ++ r) false
  rw [takeL, List.append_assoc, a1, a2, a3, if_neg (by omega), Int.toNat_natCast, takeN_enc he r []]
  rfl
/-- What a step leaves is not longer; what it takes is so. -/
def Left (step : Stp α) (N : Nat) (p : α → Prop) : Prop := ∀ l b, isBytes l → l.length ≤ N → isBytes (step l b).2.1 ∧ (step l b).2.1.length ≤ l.length ∧ p (step l b).1.1
theorem takeN_left {N : Nat} {p : α → Prop} (hg : Left step N p) : ∀ (n : Nat) (l : List Int) (b : Bool) (acc : List α), isBytes l → l.length ≤ N → (∀ x ∈ acc, p x) → isBytes (takeN step n l b acc).2.1 ∧ (takeN step n l b acc).2.1.length ≤ l.length ∧ (∀ x ∈ (takeN step n l b acc).1.1, p x) ∧ (takeN step n l b acc).1.1.length ≤ acc.length + n
  | 0, l, b, acc, hb, hl, ha => ⟨hb, Nat.le_refl _, ha, Nat.le_refl _⟩
  | n + 1, l, b, acc, hb, hl, ha => by
    obtain ⟨g1, g2, g3⟩ := hg l b hb hl
    by_cases hc : (step l b).1.2 = false ∨ (step l b).2.2 = true
    · rw [takeN, if_pos hc]; exact ⟨g1, g2, fun x hx => by simp at hx, by simp⟩
    · rw [takeN, if_neg hc]
      obtain ⟨k1, k2, k3, k4⟩ := takeN_left hg n _ (step l b).2.2 (acc ++ [(step l b).1.1]) g1 (Nat.le_trans g2 hl) (fun x hx => by
        rcases List.mem_append.1 hx with hx | hx
        · exact ha x hx
        · rw [List.mem_singleton.1 hx]; exact g3)
      exact ⟨k1, Nat.le_trans k2 g2, k3, by rw [List.length_append, List.length_singleton] at k4; omega⟩
theorem takeL_left {N : Nat} {p : α → Prop} (hg : Left step N p) (most : Int) (hm : 0 ≤ most) (l : List Int) (b : Bool) (hb : isBytes l) (hl : l.length ≤ N) : isBytes (takeL step most l b).2.1 ∧ (takeL step most l b).2.1.length ≤ l.length ∧ (∀ x ∈ (takeL step most l b).1.1, p x) ∧ ((takeL step most l b).1.1.length : Int) ≤ most := by
  have h1 := aft_bytes hb
  have h2 := aft_len l hb
  by_cases hc : numOf l < 0 ∨ most < numOf l
  · rw [takeL, if_pos hc]; exact ⟨h1, h2, fun x hx => by simp at hx, by simpa using hm⟩
  · rw [takeL, if_neg hc]
    obtain ⟨k1, k2, k3, k4⟩ := takeN_left hg (numOf l).toNat _ (badOf l b) [] h1 (Nat.le_trans h2 hl) (fun x hx => by simp at hx)
    exact ⟨k1, Nat.le_trans k2 h2, k3, by rw [List.length_nil] at k4; omega⟩
end
theorem stepT_left (N : Nat) : Left stepT N (fun s => s.size ≤ N) := fun l b hb hl => ⟨aftT_bytes hb, aftT_len l hb, Nat.le_trans (textOf_size l hb) hl⟩
theorem stepT_enc {s : ByteArray} (hs : s.size ≤ 9223372036854775807) (r : List Int) : stepT (encT (bytesOf s) ++ r) false = ((s, true), r, false) := by
  obtain ⟨a1, a2, a3⟩ := textOf_enc hs r false
  unfold stepT; rw [a1, a2, a3]
theorem stepC_left (N : Nat) : Left stepC N (fun x => (∀ s ∈ x.f0, s.size ≤ N) ∧ (∀ s ∈ x.f1, s.size ≤ N)) := fun l b hb hl => by
  obtain ⟨k1, k2, k3, k4⟩ := takeL_left (stepT_left N) 4 (by decide) l b hb hl
  unfold stepC
  by_cases hc : (takeL stepT 4 l b).1.2 = false
  · rw [if_pos hc]; exact ⟨k1, k2, k3, fun s hs => by simp at hs⟩
  · rw [if_neg hc]
    obtain ⟨j1, j2, j3, j4⟩ := takeL_left (stepT_left N) 4 (by decide) _ (takeL stepT 4 l b).2.2 k1 (Nat.le_trans k2 hl)
    exact ⟨j1, Nat.le_trans j2 k2, k3, j3⟩
theorem stepC_enc {x : S60} (h : OkC x) (r : List Int) : stepC (encC x ++ r) false = ((x, true), r, false) := by
  have h0 := h.h0
  have h1 := h.h1
  have f := fitC_iff.1 h.fit
  have a := takeL_enc (step := stepT) (e := fun s => encT (bytesOf s)) (most := 4) (m := x.f0) (by omega) (by omega) (fun s hs r => stepT_enc (f.1 s hs) r) (encL x.f1 ++ r)
  have b := takeL_enc (step := stepT) (e := fun s => encT (bytesOf s)) (most := 4) (m := x.f1) (by omega) (by omega) (fun s hs r => stepT_enc (f.2 s hs) r) r
  have e : encC x ++ r = (enc (x.f0.length : Int) ++ x.f0.flatMap fun s => encT (bytesOf s)) ++ (encL x.f1 ++ r) := by unfold encC; rw [List.append_assoc]; rfl
  have e2 : encL x.f1 ++ r = (enc (x.f1.length : Int) ++ x.f1.flatMap fun s => encT (bytesOf s)) ++ r := rfl
  unfold stepC
  rw [e, a]
  simp only
  rw [if_neg (by simp), e2, b]
theorem takeQ_enc {q : List S60} (h : OkQ q) (r : List Int) : takeQ (encQ q ++ r) false = (q, 0, r, false) := by
  have h4 := h.h4
  have a := takeL_enc (step := stepC) (e := encC) (most := 4) (m := q) (by omega) (by omega) (fun x hx r => stepC_enc (h.hc x hx) r) r
  unfold takeQ encQ
  rw [a]
  simp only
  rw [if_neg (by rw [mayQ_zero.2 h]; simp)]
theorem takeQ_left (N : Nat) {l : List Int} (b : Bool) (hb : isBytes l) (hl : l.length ≤ N) : isBytes (takeQ l b).2.2.1 ∧ (takeQ l b).2.2.1.length ≤ l.length ∧ (∀ x ∈ (takeL stepC 4 l b).1.1, (∀ s ∈ x.f0, s.size ≤ N) ∧ (∀ s ∈ x.f1, s.size ≤ N)) ∧ ((takeL stepC 4 l b).1.1.length : Int) ≤ 4 ∧ ((takeQ l b).2.1 = 0 ∨ (takeQ l b).2.1 = 2 ∧ (takeQ l b).1 = []) := by
  obtain ⟨k1, k2, k3, k4⟩ := takeL_left (stepC_left N) 4 (by decide) l b hb hl
  unfold takeQ
  by_cases hc : (takeL stepC 4 l b).1.2 = false ∨ mayQ (takeL stepC 4 l b).1.1 ≠ 0
  · rw [if_pos hc]; exact ⟨k1, k2, k3, k4, .inr ⟨rfl, rfl⟩⟩
  · rw [if_neg hc]; exact ⟨k1, k2, k3, k4, .inl rfl⟩
theorem stepD_left (N : Nat) : Left stepD N (fun x => x.f1.size ≤ N ∧ (∀ y ∈ x.f2.f0, (∀ s ∈ y.f0, s.size ≤ N) ∧ (∀ s ∈ y.f1, s.size ≤ N))) := fun l b hb hl => by
  have y1 := aft_bytes hb
  have y2 := aftT_bytes y1
  have l1 := aft_len l hb
  have l2 := aftT_len _ y1
  obtain ⟨k1, k2, k3, k4, k5⟩ := takeQ_left N (badT (aft l) (badOf l b)) y2 (by omega)
  unfold stepD
  refine ⟨k1, by simp only; omega, Nat.le_trans (textOf_size _ y1) (by omega), ?_⟩
  simp only
  unfold takeQ
  split
  · intro y hy; simp at hy
  · exact k3
theorem takeDs_code (l : List Int) : (∃ m, takeDs l = (m, 0) ∧ m.length ≤ 4 ∧ (∀ x ∈ m, OkD x) ∧ l = encDs m) ∨ takeDs l = ([], 2) := by
  unfold takeDs
  split
  · exact .inr rfl
  · rename_i h
    rw [not_or, not_or] at h
    obtain ⟨a1, a2, a3⟩ := putDs_ok (by simpa using h.2.1)
    refine .inl ⟨_, rfl, a1, a2, ?_⟩
    have := h.2.2
    rw [a3] at this
    exact (by simpa using this : _ = l).symm
theorem takeDs_no {l : List Int} (h : ∀ m, m.length ≤ 4 → (∀ x ∈ m, OkD x) → l = encDs m → False) : takeDs l = ([], 2) := by
  rcases takeDs_code l with ⟨m, _, h4, ho, he⟩ | h2
  · exact (h m h4 ho he).elim
  · exact h2
end Go.Proofs.Ytdpigeineephlaa.Prt
namespace Go.Proofs.Ytdpigeineephlaa.Prt
open Go.RowKit Go.Proofs.YtdpigeineephlaaW.PrintWords Go.Proofs.YtdpigeineephlaaW.PrintLast Go.Proofs.YtdpigeineephlaaW.PrintMore Go.Proofs.Ytdpigeineephlaa.Num Go.Proofs.Ytdpigeineephlaa.Nam
set_option linter.unusedVariables false
set_option linter.unusedSimpArgs false

/-- What a call leaves that was handed a reader: the reader, its bytes, the rest of the memory. -/
structure Lv (w w' : World) (P : Nat → Prop) (g : Nat) (n : Nat) (q : List Int × Bool) : Prop where
  rd : Rd 71 P w' g q.1 q.2
  by_ : isBytes q.1
  len : q.1.length ≤ n
  below : Below g w w'
  keep : KeepBut w w' g none
theorem Lv.trans {w w1 w2 : World} {P : Nat → Prop} {g n n1 : Nat} {q q1 : List Int × Bool} (h : Lv w w1 P g n q) (k : Lv w1 w2 P g n1 q1) (hn : n1 ≤ n) : Lv w w2 P g n q1 := ⟨k.rd, k.by_, Nat.le_trans k.len hn, h.below.trans k.below, h.keep.trans k.keep (.inl rfl)⟩
theorem Lv.up {w w1 w2 : World} {P : Nat → Prop} {g n : Nat} {q : List Int × Bool} (h : Lv w w1 P g n q) (hb : Below w1.heap.size w1 w2) : Lv w w2 P g n q := ⟨h.rd.below hb, h.by_, h.len, h.below.trans (hb.mono (Nat.le_of_lt h.rd.lt)), h.keep.trans (KeepBut.of_below hb g none) (.inl rfl)⟩
theorem Lv.set {w w1 : World} {P : Nat → Prop} {g n : Nat} {q : List Int × Bool} (h : Lv w w1 P g n q) (hg : g < w.heap.size) (hP : ∀ k, P k → k < w.heap.size) {Q : Nat} (hQ : w.heap.size ≤ Q) (i : Nat) (u : Value) : Lv w (w1.setCell ⟨Q, i, none⟩ u) P g n q :=
  ⟨h.rd.kept ((KeepBut.refl w1 Q none).set_ i _) (by omega) (fun hp => by have := hP Q hp; omega), h.by_, h.len, h.below.setCell (p := ⟨Q, i, none⟩) (by show g ≤ Q; omega) _, keep_far h.keep hQ _⟩
theorem Lv.grown {w w1 w2 : World} {P : Nat → Prop} {g n : Nat} {q : List Int × Bool} {v : Value} (h : Lv w w1 P g n q) (hg : g < w.heap.size) (hP : ∀ k, P k → k < w.heap.size) (hgr : w1.grownBy w2 v.ownBlock) (hv : ∀ k, v.ownBlock = some k → w.heap.size ≤ k) (hb : Below g w w2) : Lv w w2 P g n q := by
  refine ⟨h.rd.grown hgr (ne_base hv hg) (fun k hk => ne_base hv (hP k hk)), h.by_, h.len, hb, ?_⟩
  refine ⟨Nat.le_trans h.keep.1 hgr.size, fun i hi hne hr => ?_⟩
  rw [← h.keep.2 i hi hne hr]
  exact hgr.block i (Nat.lt_of_lt_of_le hi h.keep.1) (fun e => by have := hv i e.symm; omega)
theorem takeN_ok {α : Type} {step : Stp α} {n : Nat} {l : List Int} {b : Bool} {acc : List α} {x : α} {l' : List Int} {b' : Bool} (h : step l b = ((x, true), l', b')) (hb : b' = false) : takeN step (n + 1) l b acc = takeN step n l' b' (acc ++ [x]) := by
  rw [takeN, h, if_neg (by rw [hb]; simp)]
theorem takeN_no {α : Type} {step : Stp α} {n : Nat} {l : List Int} {b : Bool} {acc : List α} {x : α} {ok : Bool} {l' : List Int} {b' : Bool} (h : step l b = ((x, ok), l', b')) (hb : ok = false ∨ b' = true) : takeN step (n + 1) l b acc = (([], false), l', b') := by
  rw [takeN, h, if_pos hb]
theorem takenStr_calls (step : Stp ByteArray) (most : Int) (G : Nat) (q1 : Value) (P : Nat → Prop) (w : World) (g : Nat) (l : List Int) (bad : Bool) (hI : Rd 71 P w g l bad) (hb : isBytes l) (hP : ∀ k, P k → k < w.heap.size) (hm0 : 0 ≤ most) (hm1 : most ≤ 1000)
    (hent : ∀ (xs : Array Value) (W : World), (callFunc G xs).run Try.prog W = .ok (.enter G xs) W)
    (hs : ∀ w1 l1 b1, Lv w w1 P g l.length (l1, b1) → Calls Try.prog G #[q1] w1 fun e w2 => e = .returned (.tuple #[.string (step l1 b1).1.1, .bool (step l1 b1).1.2]) ∧ Lv w1 w2 P g l1.length (step l1 b1).2)
    (r : (List ByteArray × Bool) × List Int × Bool) (hr : takeL step most l bad = r) :
    Calls Try.prog 43 #[.pointer (some ⟨g, 0, none⟩), .int .i64 most, .func (.func G) #[] #[q1]] w fun e w' =>
      ∃ v, e = .returned (.tuple #[v, .bool r.1.2]) ∧ Kd.string.R 9 w' w.heap.size (fun _ => True) v r.1.1 ∧ Lv w w' P g l.length r.2 := by
  obtain ⟨x, hx⟩ : ∃ x, numOf l = x := ⟨_, rfl⟩
  have hri := numOf_i64 hb
  rw [hx] at hri
  obtain ⟨hr1, hr2⟩ := hri
  unfold takeL at hr
  rw [hx] at hr
  have HN := Aside0.mk (num_calls' x P w g l bad hI hb hx)
  have HAB := Aside0.mk (And.intro (aft_bytes hb) (aft_len l hb))
  have HS := Aside0.mk hs
  have HPP := Aside0.mk hP
  have HGW := Aside0.mk hI.lt
  have HR := Aside0.mk hr
  clear hI hb hs hx hP hr
  by_cases hneg : x < 0
  · have hd : decide (x < 0) = true := decide_eq_true hneg
    go_enter Try.func43, Try.ntmps43
    go_wp2_with fail
    refine HN.out.mono ?_
    rintro e w1 ⟨rfl, hI1, hb1, hk1⟩
    have n1_ := Aside0.mk (Lv.mk (n := l.length) (q := (aft l, badOf l bad)) hI1 HAB.out.1 HAB.out.2 hb1 hk1)
    clear hI1 hb1 hk1
    go_wp2
    go_ret2
    rw [← HR.out, if_pos (.inl hneg)]
    exact ⟨_, rfl, Kd.R_nil _ _ _ _ _, n1_.out⟩
  have hd : decide (x < 0) = false := decide_eq_false hneg
  by_cases hbig : most < x
  · have hd2 : decide (most < x) = true := decide_eq_true hbig
    go_enter Try.func43, Try.ntmps43
    go_wp2_with fail
    refine HN.out.mono ?_
    rintro e w1 ⟨rfl, hI1, hb1, hk1⟩
    have n1_ := Aside0.mk (Lv.mk (n := l.length) (q := (aft l, badOf l bad)) hI1 HAB.out.1 HAB.out.2 hb1 hk1)
    clear hI1 hb1 hk1
    go_wp2
    go_ret2
    rw [← HR.out, if_pos (.inr hbig)]
    exact ⟨_, rfl, Kd.R_nil _ _ _ _ _, n1_.out⟩
  have hd2 : decide (most < x) = false := decide_eq_false hbig
  obtain ⟨n, rfl⟩ := Int.eq_ofNat_of_zero_le (Int.not_lt.1 hneg)
  have HR2 := Aside0.mk ((if_neg (by omega : ¬ ((n : Int) < 0 ∨ most < (n : Int)))).symm.trans HR.out)
  rw [Int.toNat_natCast] at HR2
  clear HR
  go_enter Try.func43, Try.ntmps43
  go_wp2_with fail
  refine HN.out.mono ?_
  rintro e w1 ⟨rfl, hI1, hb1, hk1⟩
  have n1_ := Aside0.mk (Lv.mk (n := l.length) (q := (aft l, badOf l bad)) hI1 HAB.out.1 HAB.out.2 hb1 hk1)
  clear hI1 hb1 hk1 HN
  go_wp2
  go_loopg [9, 22] n (fun k v9 v22 w' => ∃ (i : Nat) (l1 : List Int) (b1 : Bool) (acc : List ByteArray), v22 = .int .i64 (i : Int) ∧ Aside0 (i + k = n) ∧ Aside0 (acc.length = i) ∧ Aside0 (takeN step k l1 b1 acc = r) ∧ Aside0 (Kd.string.R 9 w' w.heap.size (fun _ => True) v9 acc) ∧ Aside0 (Lv w w' P g l.length (l1, b1)))
  case atStart => exact ⟨0, _, _, [], rfl, ⟨by omega⟩, ⟨rfl⟩, HR2, ⟨Kd.R_nil _ _ _ _ _⟩, n1_⟩
  case round =>
    clear HR2 n1_
    obtain ⟨i, l1, b1, acc, rfl, HE, HAL, HR, HO, HL⟩ := hrel
    obtain ⟨A9, c9, e9⟩ := Kd.R_slice HO.out
    subst e9
    by_cases hlt : i < n
    · have hb1 : decide ((i : Int) < (n : Int)) = true := decide_eq_true (by omega)
      obtain ⟨k, rfl⟩ : ∃ m, gk = m + 1 := ⟨gk - 1, by have := HE.out; omega⟩
      have HC := Aside0.mk (HS.out wr l1 b1 HL.out)
      obtain ⟨⟨⟨y, ok⟩, l2, b2⟩, hq⟩ : ∃ q, step l1 b1 = q := ⟨_, rfl⟩
      rw [hq] at HC
      have HQ := Aside0.mk hq
      clear hq
      go_wp2_with fail
      refine HC.out.mono ?_
      rintro e w2 ⟨rfl, hl2⟩
      have HO2 := Aside0.mk (R_off' HO.out HGW.out hl2.keep)
      have HL2 := Aside0.mk (HL.out.trans hl2 HL.out.len)
      clear hl2 HO HL HC
      cases ok with
      | false =>
        have HR3 := Aside0.mk ((takeN_no HQ.out (.inl rfl)).symm.trans HR.out)
        clear HQ HR
        go_wp2_with fail
        go_ret2
        rw [← HR3.out]
        exact ⟨_, rfl, Kd.R_nil _ _ _ _ _, HL2.out⟩
      | true =>
        go_wp2_with fail
        refine (bad_calls P w2 g l2 b2 HL2.out.rd).mono ?_
        rintro e w3 ⟨rfl, rfl⟩
        cases b2 with
        | true =>
          have HR3 := Aside0.mk ((takeN_no HQ.out (.inr rfl)).symm.trans HR.out)
          clear HQ HR
          go_wp2_with fail
          go_ret2
          rw [← HR3.out]
          exact ⟨_, rfl, Kd.R_nil _ _ _ _ _, HL2.out⟩
        | false =>
          have HR3 := Aside0.mk ((takeN_ok HQ.out rfl).symm.trans HR.out)
          clear HQ HR
          have hlen : acc.length ≤ 1000 := by have := HAL.out; omega
          go_wp2_with (first | ((with_reducible refine gate_builtin (b := .append) (xs := #[.tmp 35, .tmp 37]) rfl ?_); at_builtin; refine Kd.R_append Kd.string (w0 := w2) w.heap.size rfl (.tmp 35) (.tmp 37) 58 9 (.string ⟨#[]⟩) 16 rfl Try.underlying58 info_str rfl (by decide) (by omega) (.slice A9 acc.length c9) acc y [.string y] (fun _ => True) (fun _ => False) rfl rfl rfl (fun _ hk => hk.elim) (fun _ _ => trivial) HO2.out (Below.refl _ _) HL2.out.keep.1 (by omega) ?_; intro v w5 ho hb hg hat; have HO5 := Aside0.mk ho; have HL5 := Aside0.mk (HL2.out.grown HGW.out HPP.out hg (Kd.R_base HO2.out) (HL2.out.below.trans (hb.mono (Nat.le_of_lt HGW.out)))); clear ho hb hg hat))
          go_roundg k
          case measure => omega
          case rel => exact ⟨i + 1, l2, false, acc ++ [y], by go_num, ⟨by have := HE.out; omega⟩, ⟨by have := HAL.out; rw [List.length_append, List.length_singleton]; omega⟩, HR3, HO5, HL5⟩
    · have hb1 : decide ((i : Int) < (n : Int)) = false := decide_eq_false (by omega)
      have hk0 : gk = 0 := by have := HE.out; omega
      subst hk0
      go_wp2_with fail
      refine (bad_calls P wr g l1 b1 HL.out.rd).mono ?_
      rintro e w3 ⟨rfl, rfl⟩
      go_wp2
      go_ret2
      rw [← HR.out]
      exact ⟨_, rfl, HO.out, HL.out⟩
end Go.Proofs.Ytdpigeineephlaa.Prt
namespace Go.Proofs.Ytdpigeineephlaa.Prt
open Go.RowKit Go.Proofs.YtdpigeineephlaaW.PrintWords Go.Proofs.YtdpigeineephlaaW.PrintLast Go.Proofs.YtdpigeineephlaaW.PrintMore Go.Proofs.Ytdpigeineephlaa.Num Go.Proofs.Ytdpigeineephlaa.Nam
set_option linter.unusedVariables false
set_option linter.unusedSimpArgs false
theorem S_turnG {α : Type} {d : Kd α} {e : Nat} {w w1 : World} {base g t : Nat} {v : Value} {xs : List α} {cells : Array Value} (h : Kd.S d e w base (fun _ => True) v xs) (hb : w.heap[g]? = some (.cells cells t (0, 0))) (ht : ∀ q, q ∈ e :: d.E → q ≠ t) (hk : KeepBut w w1 g none) : Kd.S d e w1 base (fun k => k < w.heap.size) v xs :=
  Kd.S_mono (Kd.S_keep (Kd.S_bound (Kd.S_types h hb ht)) hk (fun k hk => hk.1.2)) (fun k hk => hk.2.2.1)
theorem R_setA {α : Type} {d : Kd α} {e N t E : Nat} {w : World} {v : Value} {l : List α} (h : Kd.R d e w N (fun _ => True) v l) (hb : ∃ cells, w.heap[E]? = some (.cells cells t (0, 0))) (ht : ∀ q, q ∈ e :: d.E → q ≠ t) (i : Nat) (u : Value) : Kd.R d e (w.setCell ⟨E, i, none⟩ u) N (fun _ => True) v l ∧ ∃ cells, (w.setCell ⟨E, i, none⟩ u).heap[E]? = some (.cells cells t (0, 0)) := by
  obtain ⟨cells, hb⟩ := hb
  exact ⟨R_set h hb ht i u, _, blk_set hb i u⟩
theorem R_setA2 {α : Type} {d : Kd α} {e N t E : Nat} {w : World} {v : Value} {l : List α} {cells : Array Value} (h : Kd.R d e w N (fun _ => True) v l) (hb : w.heap[E]? = some (.cells cells t (0, 0))) (ht : ∀ q, q ∈ e :: d.E → q ≠ t) (u0 u1 : Value) : Kd.R d e ((w.setCell ⟨E, 0, none⟩ u0).setCell ⟨E, 1, none⟩ u1) N (fun _ => True) v l :=
  (R_setA (R_setA h ⟨_, hb⟩ ht 0 u0).1 (R_setA h ⟨_, hb⟩ ht 0 u0).2 ht 1 u1).1
theorem R_setA3 {α : Type} {d : Kd α} {e N t E : Nat} {w : World} {v : Value} {l : List α} {cells : Array Value} (h : Kd.R d e w N (fun _ => True) v l) (hb : w.heap[E]? = some (.cells cells t (0, 0))) (ht : ∀ q, q ∈ e :: d.E → q ≠ t) (u0 u1 u2 : Value) : Kd.R d e (((w.setCell ⟨E, 0, none⟩ u0).setCell ⟨E, 1, none⟩ u1).setCell ⟨E, 2, none⟩ u2) N (fun _ => True) v l :=
  have a := R_setA h ⟨_, hb⟩ ht 0 u0
  have b := R_setA a.1 a.2 ht 1 u1
  (R_setA b.1 b.2 ht 2 u2).1
theorem info_cla : (Try.prog.info? 60).map (fun i => (i.zero, i.size, i.bytes)) = some (some (.agg #[.slice none 0 0, .slice none 0 0]), 2, 48) := by kernel_rfl
theorem takenCla_calls (step : Stp S60) (most : Int) (G : Nat) (q1 q2 : Value) (P : Nat → Prop) (w : World) (g : Nat) (l : List Int) (bad : Bool) (hI : Rd 71 P w g l bad) (hb : isBytes l) (hP : ∀ k, P k → k < w.heap.size) (hm0 : 0 ≤ most) (hm1 : most ≤ 1000)
    (hent : ∀ (xs : Array Value) (W : World), (callFunc G xs).run Try.prog W = .ok (.enter G xs) W)
    (hs : ∀ w1 l1 b1, Lv w w1 P g l.length (l1, b1) → Calls Try.prog G #[q1, q2] w1 fun e w2 => ∃ v0 v1, e = .returned (.tuple #[.agg #[v0, v1], .bool (step l1 b1).1.2]) ∧ Kd.string.R 9 w2 w1.heap.size (fun _ => True) v0 (step l1 b1).1.1.f0 ∧ Kd.string.R 9 w2 w1.heap.size (fun _ => True) v1 (step l1 b1).1.1.f1 ∧ Lv w1 w2 P g l1.length (step l1 b1).2)
    (r : (List S60 × Bool) × List Int × Bool) (hr : takeL step most l bad = r) :
    Calls Try.prog 41 #[.pointer (some ⟨g, 0, none⟩), .int .i64 most, .func (.func G) #[] #[q1, q2]] w fun e w' =>
      ∃ v, e = .returned (.tuple #[v, .bool r.1.2]) ∧ Kd.S k60 60 w' w.heap.size (fun _ => True) v r.1.1 ∧ Lv w w' P g l.length r.2 := by
  obtain ⟨x, hx⟩ : ∃ x, numOf l = x := ⟨_, rfl⟩
  have hri := numOf_i64 hb
  rw [hx] at hri
  obtain ⟨hr1, hr2⟩ := hri
  unfold takeL at hr
  rw [hx] at hr
  have HN := Aside0.mk (num_calls' x P w g l bad hI hb hx)
  have HAB := Aside0.mk (And.intro (aft_bytes hb) (aft_len l hb))
  have HS := Aside0.mk hs
  have HPP := Aside0.mk hP
  have HGW := Aside0.mk hI.lt
  have HR := Aside0.mk hr
  clear hI hb hs hx hP hr
  have hu60 := Try.underlying60
  by_cases hneg : x < 0
  · have hd : decide (x < 0) = true := decide_eq_true hneg
    go_enter Try.func41, Try.ntmps41
    go_wp2_with fail
    refine HN.out.mono ?_
    rintro e w1 ⟨rfl, hI1, hb1, hk1⟩
    have n1_ := Aside0.mk (Lv.mk (n := l.length) (q := (aft l, badOf l bad)) hI1 HAB.out.1 HAB.out.2 hb1 hk1)
    clear hI1 hb1 hk1
    go_wp2
    go_ret2
    rw [← HR.out, if_pos (.inl hneg)]
    exact ⟨_, rfl, Kd.S_nil _ _ _ _ _, n1_.out⟩
  have hd : decide (x < 0) = false := decide_eq_false hneg
  by_cases hbig : most < x
  · have hd2 : decide (most < x) = true := decide_eq_true hbig
    go_enter Try.func41, Try.ntmps41
    go_wp2_with fail
    refine HN.out.mono ?_
    rintro e w1 ⟨rfl, hI1, hb1, hk1⟩
    have n1_ := Aside0.mk (Lv.mk (n := l.length) (q := (aft l, badOf l bad)) hI1 HAB.out.1 HAB.out.2 hb1 hk1)
    clear hI1 hb1 hk1
    go_wp2
    go_ret2
    rw [← HR.out, if_pos (.inr hbig)]
    exact ⟨_, rfl, Kd.S_nil _ _ _ _ _, n1_.out⟩
  have hd2 : decide (most < x) = false := decide_eq_false hbig
  obtain ⟨n, rfl⟩ := Int.eq_ofNat_of_zero_le (Int.not_lt.1 hneg)
  have HR2 := Aside0.mk ((if_neg (by omega : ¬ ((n : Int) < 0 ∨ most < (n : Int)))).symm.trans HR.out)
  rw [Int.toNat_natCast] at HR2
  clear HR
  go_enter Try.func41, Try.ntmps41
  go_wp2_with fail
  refine HN.out.mono ?_
  rintro e w1 ⟨rfl, hI1, hb1, hk1⟩
  have n1_ := Aside0.mk (Lv.mk (n := l.length) (q := (aft l, badOf l bad)) hI1 HAB.out.1 HAB.out.2 hb1 hk1)
  clear hI1 hb1 hk1 HN
  go_wp2
  go_loopg [9, 22] n (fun k v9 v22 w' => ∃ (i : Nat) (l1 : List Int) (b1 : Bool) (acc : List S60), v22 = .int .i64 (i : Int) ∧ Aside0 (i + k = n) ∧ Aside0 (acc.length = i) ∧ Aside0 (takeN step k l1 b1 acc = r) ∧ Aside0 (Kd.S k60 60 w' w.heap.size (fun _ => True) v9 acc) ∧ Aside0 (Lv w w' P g l.length (l1, b1)))
  case atStart => exact ⟨0, _, _, [], rfl, ⟨by omega⟩, ⟨rfl⟩, HR2, ⟨Kd.S_nil _ _ _ _ _⟩, n1_⟩
  case round =>
    clear HR2 n1_
    obtain ⟨i, l1, b1, acc, rfl, HE, HAL, HR, HO, HL⟩ := hrel
    obtain ⟨A9, c9, e9⟩ := Kd.S_slice HO.out
    subst e9
    by_cases hlt : i < n
    · have hb1 : decide ((i : Int) < (n : Int)) = true := decide_eq_true (by omega)
      obtain ⟨k, rfl⟩ : ∃ m, gk = m + 1 := ⟨gk - 1, by have := HE.out; omega⟩
      have HC := Aside0.mk (HS.out wr l1 b1 HL.out)
      obtain ⟨⟨⟨y, ok⟩, l2, b2⟩, hq⟩ : ∃ q, step l1 b1 = q := ⟨_, rfl⟩
      rw [hq] at HC
      have HQ := Aside0.mk hq
      clear hq
      go_wp2_with fail
      refine HC.out.mono ?_
      rintro e w2 ⟨v0, v1, rfl, h0, h1, hl2⟩
      have HO2 : Aside0 (Kd.S k60 60 w2 w.heap.size (fun k => k < wr.heap.size) (.slice A9 acc.length c9) acc) := ⟨by
        obtain ⟨A', c', hblk, _⟩ := HL.out.rd
        exact S_turnG HO.out hblk (by decide) hl2.keep⟩
      have HL2 := Aside0.mk (HL.out.trans hl2 HL.out.len)
      have HSZ := Aside0.mk (And.intro hl2.keep.1 HL.out.keep.1)
      have H0 := Aside0.mk h0
      have H1 := Aside0.mk h1
      clear hl2 HO HL HC h0 h1
      obtain ⟨A0, c0, e0⟩ := Kd.R_slice H0.out
      subst e0
      obtain ⟨A1, c1, e1⟩ := Kd.R_slice H1.out
      subst e1
      go_upto_region 8 with (first | ((with_reducible refine gate_dst (N := 10) rfl ?_); (try (refine gate_guard (by rfl) ?_; dsimp only)); refine box_event ?hg (N := 10) ?hd (cs := #[.slice none 0 0, .slice none 0 0]) (t := 60) ?hr ?_; (case hd => rfl); (case hg => rfl); (case hr => first | (go_simp; done) | (go_simp; rfl)); intro B hg_ w3 hbox_ hb_; have HBX := Aside0.mk hbox_; have HBN := Aside0.mk hg_; have HBB := Aside0.mk hb_; clear hbox_ hg_ hb_; have hq0 := blk_cell HBX.out 0; have hf0 := blk_frozen HBX.out 0; have hq1 := blk_cell HBX.out 1; have hf1 := blk_frozen HBX.out 1))
      have HBG : Aside0 (wr.heap.size ≤ B ∧ w.heap.size ≤ B) := ⟨by have := HBN.out; have := HSZ.out.1; have := HSZ.out.2; omega⟩
      have n1_ := Aside0.mk (Kd.S_far (p := ⟨B, 1, none⟩) (Kd.S_far (p := ⟨B, 0, none⟩) (Kd.S_below HO2.out HBB.out) (fun k hk => by have := HBG.out.1; show k ≠ B; omega) (.slice A0 y.f0.length c0)) (fun k hk => by have := HBG.out.1; show k ≠ B; omega) (.slice A1 y.f1.length c1))
      have n4_ := Aside0.mk ((((HL2.out.up HBB.out).set HGW.out HPP.out HBG.out.2 0 (.slice A0 y.f0.length c0)).set HGW.out HPP.out HBG.out.2 1 (.slice A1 y.f1.length c1)))
      have n6_ := Aside0.mk ((blk_put (cs' := #[.slice A0 y.f0.length c0, .slice A1 y.f1.length c1]) (blk_put (cs' := #[.slice A0 y.f0.length c0, .slice none 0 0]) HBX.out 0 (.slice A0 y.f0.length c0) rfl) 1 (.slice A1 y.f1.length c1) rfl))
      have r0_ := Aside0.mk (R_setA2 (Kd.R_below H0.out HBB.out) HBX.out (by decide) (.slice A0 y.f0.length c0) (.slice A1 y.f1.length c1))
      have r1_ := Aside0.mk (R_setA2 (Kd.R_below H1.out HBB.out) HBX.out (by decide) (.slice A0 y.f0.length c0) (.slice A1 y.f1.length c1))
      clear H0 H1
      have HW3 := Aside0.mk (Nat.le_trans HSZ.out.1 HBB.out.size)
      clear HO2 HL2 HBX HBN HBB hq0 hf0 hq1 hf1
      generalize (w3.setCell ⟨B, 0, none⟩ (.slice A0 y.f0.length c0)).setCell ⟨B, 1, none⟩ (.slice A1 y.f1.length c1) = w4 at n1_ n4_ n6_ r0_ r1_ ⊢
      cases ok with
      | false =>
        have HR3 := Aside0.mk ((takeN_no HQ.out (.inl rfl)).symm.trans HR.out)
        clear HQ HR
        go_wp2_with fail
        go_ret2
        rw [← HR3.out]
        exact ⟨_, rfl, Kd.S_nil _ _ _ _ _, n4_.out⟩
      | true =>
        go_wp2_with fail
        refine (bad_calls P w4 g l2 b2 n4_.out.rd).mono ?_
        rintro e w5 ⟨rfl, rfl⟩
        cases b2 with
        | true =>
          have HR3 := Aside0.mk ((takeN_no HQ.out (.inr rfl)).symm.trans HR.out)
          clear HQ HR
          go_wp2_with fail
          go_ret2
          rw [← HR3.out]
          exact ⟨_, rfl, Kd.S_nil _ _ _ _ _, n4_.out⟩
        | false =>
          have HR3 := Aside0.mk ((takeN_ok HQ.out rfl).symm.trans HR.out)
          clear HQ HR
          have hlen : acc.length ≤ 1000 := by have := HAL.out; omega
          have hq0 := blk_cell n6_.out 0
          have hq1 := blk_cell n6_.out 1
          have HAP : Aside0 (∀ k, wr.heap.size ≤ k → True ∧ some k ≠ (Value.slice A9 acc.length c9).ownBlock) := ⟨fun k hk => ⟨trivial, fun e_ => by have h_ := (Kd.S_R n1_.out).1 k e_.symm; omega⟩⟩
          have HAQ : Aside0 (Kd.S k60 60 w4 w.heap.size (fun k => True ∧ ¬ wr.heap.size ≤ k) (.slice A9 acc.length c9) acc) := ⟨Kd.S_mono n1_.out (fun k hk => ⟨trivial, by omega⟩)⟩
          have HMK : Aside0 ((k60).M w4 w.heap.size (fun k => wr.heap.size ≤ k) y [.slice A0 y.f0.length c0, .slice A1 y.f1.length c1]) := ⟨k60_mkM _ _ _ y (Kd.R_lower (Kd.R_mono (Kd.R_bound r0_.out) (fun k hk => hk.2.1)) HSZ.out.2) (Kd.R_lower (Kd.R_mono (Kd.R_bound r1_.out) (fun k hk => hk.2.1)) HSZ.out.2)⟩
          go_wp2_with (first | ((with_reducible refine gate_builtin (b := .append) (xs := #[.tmp 35, .tmp 37]) rfl ?_); at_builtin; refine Kd.S_append k60 (w0 := w4) w.heap.size rfl (.tmp 35) (.tmp 37) 23 60 (.agg #[.slice none 0 0, .slice none 0 0]) 48 rfl Try.underlying23 info_cla rfl (by decide) (by omega) (.slice A9 acc.length c9) acc y [.slice A0 y.f0.length c0, .slice A1 y.f1.length c1] (fun _ => True) (fun k => wr.heap.size ≤ k) rfl rfl HMK.out HAP.out (fun _ _ => trivial) HAQ.out (Below.refl _ _) n4_.out.keep.1 (by omega) ?_; intro v w6 ho hb hg hat; have HO5 := Aside0.mk ho; have HL5 := Aside0.mk (n4_.out.grown HGW.out HPP.out hg (Kd.S_base n1_.out) (n4_.out.below.trans (hb.mono (Nat.le_of_lt HGW.out)))); clear ho hb hg hat))
          go_roundg k
          case measure => omega
          case rel => exact ⟨i + 1, l2, false, acc ++ [y], by go_num, ⟨by have := HE.out; omega⟩, ⟨by have := HAL.out; rw [List.length_append, List.length_singleton]; omega⟩, HR3, HO5, HL5⟩
    · have hb1 : decide ((i : Int) < (n : Int)) = false := decide_eq_false (by omega)
      have hk0 : gk = 0 := by have := HE.out; omega
      subst hk0
      go_wp2_with fail
      refine (bad_calls P wr g l1 b1 HL.out.rd).mono ?_
      rintro e w3 ⟨rfl, rfl⟩
      go_wp2
      go_ret2
      rw [← HR.out]
      exact ⟨_, rfl, HO.out, HL.out⟩
end Go.Proofs.Ytdpigeineephlaa.Prt
namespace Go.Proofs.Ytdpigeineephlaa.Prt
open Go.RowKit Go.Proofs.YtdpigeineephlaaW.PrintWords Go.Proofs.YtdpigeineephlaaW.PrintLast Go.Proofs.YtdpigeineephlaaW.PrintMore Go.Proofs.Ytdpigeineephlaa.Num Go.Proofs.Ytdpigeineephlaa.Nam
set_option linter.unusedVariables false
set_option linter.unusedSimpArgs false

theorem textClo_calls (P : Nat → Prop) (w : World) (g Rb : Nat) (l : List Int) (b : Bool) (hR : w.heap[Rb]? = some (.cells #[.pointer (some ⟨g, 0, none⟩)] 44 (0, 0))) (hI : Rd 71 P w g l b) (hb : isBytes l) :
    Calls Try.prog 39 #[.pointer (some ⟨Rb, 0, none⟩)] w fun e w' => e = .returned (.tuple #[.string (stepT l b).1.1, .bool (stepT l b).1.2]) ∧ Lv w w' P g l.length (stepT l b).2 := by
  have hr0 := blk_cell hR 0
  have HT := Aside0.mk (text_calls P w g l b hI hb)
  have HBY := Aside0.mk (And.intro (aftT_bytes hb) (aftT_len l hb))
  clear hR hI hb
  go_enter Try.func39, Try.ntmps39
  go_wp2_with fail
  refine HT.out.mono ?_
  rintro e w1 ⟨rfl, hI, hb, hk⟩
  have n1_ := Aside0.mk (Lv.mk (n := l.length) (q := (aftT l, badT l b)) hI HBY.out.1 HBY.out.2 hb hk)
  clear hI hb hk
  go_wp2
  go_ret2
  exact ⟨rfl, n1_.out⟩
theorem texts_calls (P : Nat → Prop) (w : World) (g Rb : Nat) (l : List Int) (b : Bool) (hR : w.heap[Rb]? = some (.cells #[.pointer (some ⟨g, 0, none⟩)] 44 (0, 0))) (hne : Rb ≠ g) (hI : Rd 71 P w g l b) (hb : isBytes l) (hP : ∀ k, P k → k < w.heap.size) (r : (List ByteArray × Bool) × List Int × Bool) (hr : takeL stepT 4 l b = r) :
    Calls Try.prog 43 #[.pointer (some ⟨g, 0, none⟩), .int .i64 4, .func (.func 39) #[] #[.pointer (some ⟨Rb, 0, none⟩)]] w fun e w' =>
      ∃ v, e = .returned (.tuple #[v, .bool r.1.2]) ∧ Kd.string.R 9 w' w.heap.size (fun _ => True) v r.1.1 ∧ Lv w w' P g l.length r.2 :=
  takenStr_calls stepT 4 39 _ P w g l b hI hb hP (by decide) (by decide) (enters_of Try.func39 (by kernel_rfl) rfl) (fun w1 l1 b1 hL => textClo_calls P w1 g Rb l1 b1 (hL.keep.blk hR hne (by simp)) hL.rd hL.by_) r hr
theorem claClo_calls (P : Nat → Prop) (w : World) (g Rb Tb : Nat) (l : List Int) (b : Bool) (hR : w.heap[Rb]? = some (.cells #[.pointer (some ⟨g, 0, none⟩)] 44 (0, 0))) (hT : w.heap[Tb]? = some (.cells #[.func (.func 39) #[] #[.pointer (some ⟨Rb, 0, none⟩)]] 73 (0, 0))) (hne : Rb ≠ g) (hnt : Tb ≠ g) (hI : Rd 71 P w g l b) (hb : isBytes l) (hP : ∀ k, P k → k < w.heap.size) :
    Calls Try.prog 42 #[.pointer (some ⟨Rb, 0, none⟩), .pointer (some ⟨Tb, 0, none⟩)] w fun e w' => ∃ v0 v1, e = .returned (.tuple #[.agg #[v0, v1], .bool (stepC l b).1.2]) ∧ Kd.string.R 9 w' w.heap.size (fun _ => True) v0 (stepC l b).1.1.f0 ∧ Kd.string.R 9 w' w.heap.size (fun _ => True) v1 (stepC l b).1.1.f1 ∧ Lv w w' P g l.length (stepC l b).2 := by
  obtain ⟨⟨⟨m0, ok0⟩, l1, b1⟩, hq0⟩ : ∃ q, takeL stepT 4 l b = q := ⟨_, rfl⟩
  obtain ⟨⟨⟨m1, ok1⟩, l2, b2⟩, hq1⟩ : ∃ q, takeL stepT 4 l1 b1 = q := ⟨_, rfl⟩
  have HST : Aside0 (stepC l b = if ok0 = false then ((⟨m0, []⟩, false), (l1, b1)) else ((⟨m0, m1⟩, ok1), (l2, b2))) := ⟨by unfold stepC; rw [hq0]; simp only; rw [hq1]⟩
  have HR := Aside0.mk hR
  have HT := Aside0.mk hT
  have HNE := Aside0.mk (And.intro hne hnt)
  have HGW := Aside0.mk hI.lt
  have HPP := Aside0.mk hP
  have HL0 := Aside0.mk (Lv.mk (n := l.length) (q := (l, b)) hI hb (Nat.le_refl _) (Below.refl g w) (KeepBut.refl w g none))
  have HQ0 := Aside0.mk hq0
  have HQ1 := Aside0.mk hq1
  clear hR hT hne hnt hI hb hP hq0 hq1
  have hu60 := Try.underlying60
  go_enter Try.func42, Try.ntmps42
  go_upto_region 1 with (first | ((with_reducible refine gate_dst (N := 2) rfl ?_); (try (refine gate_guard (by rfl) ?_; dsimp only)); refine box_event ?hg (N := 2) ?hd (cs := #[.slice none 0 0, .slice none 0 0]) (t := 60) ?hr ?_; (case hd => rfl); (case hg => rfl); (case hr => first | (go_simp; done) | (go_simp; rfl)); intro E hg_ w1 hbox_ hb_; have HE := Aside0.mk hbox_; have HEN := Aside0.mk hg_; have HEB := Aside0.mk hb_; clear hbox_ hg_ hb_))
  have HEW := Aside0.mk (show w.heap.size ≤ E by rw [HEN.out]; exact Nat.le_refl _)
  have HEG := Aside0.mk (show E ≠ g by have := HGW.out; have := HEW.out; omega)
  have HR1 := Aside0.mk (blk_below HR.out HEB.out)
  have HT1 := Aside0.mk (blk_below HT.out HEB.out)
  have HL1 := Aside0.mk (HL0.out.up HEB.out)
  have HP1 := Aside0.mk (fun k (hk : P k) => Nat.lt_of_lt_of_le (HPP.out k hk) HEB.out.size)
  have hr0 := blk_cell HR1.out 0
  have ht0 := blk_cell HT1.out 0
  clear HL0 HEN HEB
  go_wp2_with fail
  refine (texts_calls P w1 g Rb l b HR1.out HNE.out.1 HL1.out.rd HL1.out.by_ HP1.out _ HQ0.out).mono ?_
  rintro e w2 ⟨v0, rfl, h0, hL⟩
  obtain ⟨A0, c0, e0⟩ := Kd.R_slice h0
  subst e0
  have H0 := Aside0.mk (Kd.R_lower h0 HL1.out.keep.1)
  have HE2 := Aside0.mk (hL.keep.blk HE.out HEG.out (by simp))
  have HL2 := Aside0.mk (HL1.out.trans hL HL1.out.len)
  clear h0 hL HL1 HP1 HR1 HT1 HE hr0 ht0
  have hq0 := blk_cell HE2.out 0
  have hf0 := blk_frozen HE2.out 0
  go_upto_region 2 with (fail)
  have n0_ := Aside0.mk (R_set H0.out HE2.out (by decide) 0 (.slice A0 m0.length c0))
  have n1_ := Aside0.mk (blk_put (cs' := #[.slice A0 m0.length c0, .slice none 0 0]) HE2.out 0 (.slice A0 m0.length c0) rfl)
  have n2_ := Aside0.mk (HL2.out.set HGW.out HPP.out HEW.out 0 (.slice A0 m0.length c0))
  clear H0 HE2 HL2 hq0 hf0
  generalize w2.setCell ⟨E, 0, none⟩ (.slice A0 m0.length c0) = w3 at n0_ n1_ n2_ ⊢
  cases ok0 with
  | false =>
    have HS2 := Aside0.mk (HST.out.trans (if_pos rfl))
    clear HST
    have hq0 := blk_cell n1_.out 0
    have hq1 := blk_cell n1_.out 1
    have hf0 := blk_frozen n1_.out 0
    have hf1 := blk_frozen n1_.out 1
    go_wp2_with fail
    have HE9 := blk_put (cs' := #[.slice A0 m0.length c0, .slice none 0 0]) (blk_put (cs' := #[.slice A0 m0.length c0, .slice none 0 0]) n1_.out 0 (.slice A0 m0.length c0) rfl) 1 (.slice none 0 0) rfl
    refine bodyPost_ret (results_ct rfl _ _ E 60 _ (0, 0) _ rfl HE9 Try.underlying60 rfl (by kernel_rfl)) rfl ?_
    rw [HS2.out]
    exact ⟨.slice A0 m0.length c0, .slice none 0 0, rfl, R_setA2 n0_.out n1_.out (by decide) _ _, Kd.R_nil _ _ _ _ _, (n2_.out.set HGW.out HPP.out HEW.out 0 _).set HGW.out HPP.out HEW.out 1 _⟩
  | true =>
    have HS2 := Aside0.mk (HST.out.trans (if_neg (by simp)))
    clear HST
    have HR3 := Aside0.mk (n2_.out.keep.blk HR.out HNE.out.1 (by simp))
    have HT3 := Aside0.mk (n2_.out.keep.blk HT.out HNE.out.2 (by simp))
    have hr0 := blk_cell HR3.out 0
    have ht0 := blk_cell HT3.out 0
    go_wp2_with fail
    refine (texts_calls P w3 g Rb l1 b1 HR3.out HNE.out.1 n2_.out.rd n2_.out.by_ (fun k hk => Nat.lt_of_lt_of_le (HPP.out k hk) n2_.out.keep.1) _ HQ1.out).mono ?_
    rintro e w4 ⟨v1, rfl, h1, hL⟩
    obtain ⟨A1, c1, e1⟩ := Kd.R_slice h1
    subst e1
    have H1 := Aside0.mk (Kd.R_lower h1 n2_.out.keep.1)
    have H0 := Aside0.mk (R_off' n0_.out HGW.out hL.keep)
    have HE4 := Aside0.mk (hL.keep.blk n1_.out HEG.out (by simp))
    have HL4 := Aside0.mk (n2_.out.trans hL n2_.out.len)
    clear h1 hL n0_ n1_ n2_ HR3 HT3 hr0 ht0
    have hq1 := blk_cell HE4.out 1
    have hf1 := blk_frozen HE4.out 1
    go_upto_region 5 with (fail)
    have n0_ := Aside0.mk (R_set H0.out HE4.out (by decide) 1 (.slice A1 m1.length c1))
    have n3_ := Aside0.mk (R_set H1.out HE4.out (by decide) 1 (.slice A1 m1.length c1))
    have n1_ := Aside0.mk (blk_put (cs' := #[.slice A0 m0.length c0, .slice A1 m1.length c1]) HE4.out 1 (.slice A1 m1.length c1) rfl)
    have n2_ := Aside0.mk (HL4.out.set HGW.out HPP.out HEW.out 1 (.slice A1 m1.length c1))
    clear H0 H1 HE4 HL4 hq1 hf1
    generalize w4.setCell ⟨E, 1, none⟩ (.slice A1 m1.length c1) = w5 at n0_ n1_ n2_ n3_ ⊢
    have hq0 := blk_cell n1_.out 0
    have hq1 := blk_cell n1_.out 1
    have hf0 := blk_frozen n1_.out 0
    have hf1 := blk_frozen n1_.out 1
    go_wp2_with fail
    have HE9 := blk_put (cs' := #[.slice A0 m0.length c0, .slice A1 m1.length c1]) (blk_put (cs' := #[.slice A0 m0.length c0, .slice A1 m1.length c1]) n1_.out 0 (.slice A0 m0.length c0) rfl) 1 (.slice A1 m1.length c1) rfl
    refine bodyPost_ret (results_ct rfl _ _ E 60 _ (0, 0) _ rfl HE9 Try.underlying60 rfl (by kernel_rfl)) rfl ?_
    rw [HS2.out]
    exact ⟨.slice A0 m0.length c0, .slice A1 m1.length c1, rfl, R_setA2 n0_.out n1_.out (by decide) _ _, R_setA2 n3_.out n1_.out (by decide) _ _, (n2_.out.set HGW.out HPP.out HEW.out 0 _).set HGW.out HPP.out HEW.out 1 _⟩
end Go.Proofs.Ytdpigeineephlaa.Prt
namespace Go.Proofs.Ytdpigeineephlaa.Prt
open Go.RowKit Go.Proofs.YtdpigeineephlaaW.PrintWords Go.Proofs.YtdpigeineephlaaW.PrintLast Go.Proofs.YtdpigeineephlaaW.PrintMore Go.Proofs.Ytdpigeineephlaa.Num Go.Proofs.Ytdpigeineephlaa.Nam
set_option linter.unusedVariables false
set_option linter.unusedSimpArgs false

/-- Strings of bytes are alike just if the bytes are. -/
theorem bytes_eq {a b : List Int} (ha : isBytes a) (hb : isBytes b) : ((strOfNums a).toList == (strOfNums b).toList) = decide (a = b) := str_beq ha hb
theorem equal_calls (A : Option Addr) (c : Nat) (l : List Int) (A' : Option Addr) (c' : Nat) (l' : List Int) (w : World) (hr : Kd.C (Kd.int .u8) w A l.length l) (hc : l.length ≤ c) (hr' : Kd.C (Kd.int .u8) w A' l'.length l') (hc' : l'.length ≤ c') (hb : isBytes l) (hb' : isBytes l') :
    Calls Try.prog 49 #[.slice A l.length c, .slice A' l'.length c'] w fun e w' => e = .returned (.bool (decide (l = l'))) ∧ w = w' := by
  have HR := Aside0.mk hr
  have HR' := Aside0.mk hr'
  have HE := Aside0.mk (bytes_eq hb hb')
  clear hr hr' hb hb' hc hc'
  go_enter Try.func49, Try.ntmps49
  go_wp2_with (first | ((with_reducible refine gate_dst (N := 6) rfl ?_); (try (refine gate_guard (by rfl) ?_; dsimp only)); refine Gen.ev_string' (strOfNums l) rfl 22 9 5 (.tmp 5) rfl Try.underlying22 Try.underlying9 Try.underlying5 rfl HR.out rfl ?_) | ((with_reducible refine gate_dst (N := 8) rfl ?_); (try (refine gate_guard (by rfl) ?_; dsimp only)); refine Gen.ev_string' (strOfNums l') rfl 22 9 5 (.tmp 7) rfl Try.underlying22 Try.underlying9 Try.underlying5 rfl HR'.out rfl ?_))
  go_ret
  exact ⟨by rw [← HE.out]; rfl, rfl⟩
theorem S_set {α : Type} {d : Kd α} {e N t E : Nat} {w : World} {v : Value} {l : List α} {cells : Array Value} (h : Kd.S d e w N (fun _ => True) v l) (hb : w.heap[E]? = some (.cells cells t (0, 0))) (ht : ∀ q, q ∈ e :: d.E → q ≠ t) (i : Nat) (u : Value) : Kd.S d e (w.setCell ⟨E, i, none⟩ u) N (fun _ => True) v l :=
  Kd.S_mono (Kd.S_far (p := ⟨E, i, none⟩) (Kd.S_types h hb ht) (fun k hk => hk.2) u) (fun _ _ => trivial)
end Go.Proofs.Ytdpigeineephlaa.Prt

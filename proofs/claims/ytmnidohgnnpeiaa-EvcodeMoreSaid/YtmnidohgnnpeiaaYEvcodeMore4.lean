/- Functions of the program, told as plain functions, with their walks: written by a program of this claim's out of the translation. Events: the document's example; what few answers; events as bytes are told apart. What is taken is what was laid down: events, one and all. evcode.All: its walk. The contract of evcode.All, in the form that the printed functions ask. Rows of events as bytes. The statement EvcodeBack, of plain functions. evcode.Put behind an empty slice: a contract that a goal's own spelling meets. -/
import Derived.Test.YtmnidohgnnpeiaaYEvcodeMore1
import Derived.Test.YtmnidohgnnpeiaaYEvcodeMore2
import Derived.Test.YtmnidohgnnpeiaaYEvcodeMore3
namespace Go.Proofs.Ytmnidohgnnpeiaa.Prt
open Go.RowKit Go.Proofs.YtmnidohgnnpeiaaW.PrintWords Go.Proofs.YtmnidohgnnpeiaaW.PrintLast Go.Proofs.YtmnidohgnnpeiaaW.PrintMore
attribute [local go_sem] max2_int min2_int max_two min_two max_three min_three max_four min_four   -- for this text's walks alone
set_option linter.unusedVariables false
set_option linter.unusedSimpArgs false

def registrarlaw05_few.f (a0_0 : ByteArray) (a0_1 : ByteArray) (l0_2 : List ByteArray) (l0_3 : List (S35)) : Option (ByteArray × ByteArray × List ByteArray × (List (S35))) := if (l0_2.length : Int) > 12 then (if 12 ≤ (l0_2.length : Int) then ((some (l0_2.take 12 : List ByteArray)).bind fun y141 => (if (l0_3.length : Int) > 12 then (if 12 ≤ (l0_3.length : Int) then (some (a0_0, a0_1, y141, (l0_3.take 12))) else (none)) else (some (a0_0, a0_1, y141, l0_3)))) else (none)) else (if (l0_3.length : Int) > 12 then (if 12 ≤ (l0_3.length : Int) then (some (a0_0, a0_1, l0_2, (l0_3.take 12))) else (none)) else (some (a0_0, a0_1, l0_2, l0_3)))
set_option maxHeartbeats 8000000 in
set_option maxRecDepth 100000 in
theorem registrarlaw05_few.calls (a0_0 : ByteArray) (a0_1 : ByteArray) (P0_2_ : Nat → Prop) (A0_2 : Option Addr) (c0_2 : Nat) (l0_2 : List ByteArray) (P0_3_ : Nat → Prop) (A0_3 : Option Addr) (c0_3 : Nat) (l0_3 : List (S35)) (r1 : ByteArray) (r2 : ByteArray) (r3 : List ByteArray) (r4 : List (S35)) (w : World) (hs0_2 : Kd.V Kd.string 9 w w.heap.size (fun k_ => P0_2_ k_) (.slice A0_2 l0_2.length c0_2) l0_2) (hs0_3 : Kd.V k35 35 w w.heap.size (fun k_ => P0_3_ k_) (.slice A0_3 l0_3.length c0_3) l0_3) (h : registrarlaw05_few.f a0_0 a0_1 l0_2 l0_3 = some (r1, r2, r3, r4)) :
    Calls Try.prog 11 #[.agg #[.string a0_0, .string a0_1, .slice A0_2 l0_2.length c0_2, .slice A0_3 l0_3.length c0_3]] w fun e w' => ∃ v2_ v3_ : Value, e = .returned (.agg #[.string r1, .string r2, v2_, v3_]) ∧ Kd.V Kd.string 9 w' w.heap.size (fun k_ => ((P0_2_ k_ ∨ P0_3_ k_) ∨ w.heap.size ≤ k_)) v2_ r3 ∧ Kd.V k35 35 w' w.heap.size (fun k_ => ((P0_2_ k_ ∨ P0_3_ k_) ∨ w.heap.size ≤ k_)) v3_ r4 ∧ Below w.heap.size w w' := by
  have hu26 := Try.underlying26
  have HO0_2 := Aside0.mk (show Kd.V Kd.string 9 w w.heap.size (fun k_ => ((P0_2_ k_ ∨ P0_3_ k_) ∨ w.heap.size ≤ k_)) (.slice A0_2 l0_2.length c0_2) l0_2 from Kd.V_mono hs0_2 (fun k_ hk => .inl (.inl hk)))
  have HO0_3 := Aside0.mk (show Kd.V k35 35 w w.heap.size (fun k_ => ((P0_2_ k_ ∨ P0_3_ k_) ∨ w.heap.size ≤ k_)) (.slice A0_3 l0_3.length c0_3) l0_3 from Kd.V_mono hs0_3 (fun k_ hk => .inl (.inr hk)))
  have HB := Aside0.mk (Below.refl w.heap.size w)
  have H : (if (l0_2.length : Int) > 12 then (if 12 ≤ (l0_2.length : Int) then ((some (l0_2.take 12 : List ByteArray)).bind fun y141 => (if (l0_3.length : Int) > 12 then (if 12 ≤ (l0_3.length : Int) then (some (a0_0, a0_1, y141, (l0_3.take 12))) else (none)) else (some (a0_0, a0_1, y141, l0_3)))) else (none)) else (if (l0_3.length : Int) > 12 then (if 12 ≤ (l0_3.length : Int) then (some (a0_0, a0_1, l0_2, (l0_3.take 12))) else (none)) else (some (a0_0, a0_1, l0_2, l0_3)))) = some (r1, r2, r3, r4) := h
  clear h
  by_cases c2 : (l0_2.length : Int) > 12
  · rw [if_pos c2] at H
    have c2b0 : decide (12 < (l0_2.length : Int)) = true := decide_eq_true c2
    have c2b1 : decide (12 < l0_2.length) = true := decide_eq_true (by omega)
    clear c2
    by_cases c3 : 12 ≤ (l0_2.length : Int)
    · rw [if_pos c3] at H
      have c3b0 := eq_true c3
      have c3b1 : decide (12 ≤ (l0_2.length : Int)) = true := decide_eq_true c3
      clear c3
      obtain ⟨y141, hy141⟩ : ∃ y_ : List ByteArray, y_ = (l0_2.take 12) := ⟨_, rfl⟩
      replace H : (if (l0_3.length : Int) > 12 then (if 12 ≤ (l0_3.length : Int) then (some (a0_0, a0_1, y141, (l0_3.take 12))) else (none)) else (some (a0_0, a0_1, y141, l0_3))) = some (r1, r2, r3, r4) := by first | (rw [hy141]; with_reducible exact H) | (have H2_ := (Option.bind_some _ _).symm.trans H; rw [hy141]; with_reducible exact H2_) | (have H2_ := (Option.bind_some _ _).symm.trans H; with_reducible exact H2_) | with_reducible exact H | (rw [hy141]; exact H) | exact H
      have Ny141 := Aside0.mk hy141
      clear hy141
      by_cases c4 : (l0_3.length : Int) > 12
      · rw [if_pos c4] at H
        have c4b0 : decide (12 < (l0_3.length : Int)) = true := decide_eq_true c4
        have c4b1 : decide (12 < l0_3.length) = true := decide_eq_true (by omega)
        clear c4
        by_cases c5 : 12 ≤ (l0_3.length : Int)
        · rw [if_pos c5] at H
          have c5b0 := eq_true c5
          have c5b1 : decide (12 ≤ (l0_3.length : Int)) = true := decide_eq_true c5
          clear c5
          obtain ⟨y146, hy146⟩ : ∃ y_ : List (S35), y_ = (l0_3.take 12) := ⟨_, rfl⟩
          replace H : (some (a0_0, a0_1, y141, y146)) = some (r1, r2, r3, r4) := by first | (rw [hy146]; with_reducible exact H) | (have H2_ := (Option.bind_some _ _).symm.trans H; rw [hy146]; with_reducible exact H2_) | (have H2_ := (Option.bind_some _ _).symm.trans H; with_reducible exact H2_) | with_reducible exact H | (rw [hy146]; exact H) | exact H
          have Ny146 := Aside0.mk hy146
          clear hy146
          simp only [Option.some.injEq, Prod.mk.injEq] at H
          obtain ⟨rfl, rfl, rfl, rfl⟩ := H
          go_enter Try.func11, Try.ntmps11
          go_wp2_with (first | ((with_reducible refine gate_dst (N := 1) rfl ?_); refine box_event ?hg (N := 1) ?hd (cs := #[.string a0_0, .string a0_1, .slice A0_2 l0_2.length c0_2, .slice A0_3 l0_3.length c0_3]) (t := 26) ?hr ?_; (case hd => rfl); (case hg => rfl); (case hr => first | (go_simp; done) | (go_simp; rfl)); intro gb139 hg w6 hbox hb; have n0_ := Aside0.mk (Kd.V_below (Kd.V_elderB (by (with_reducible repeat (first | apply Kd.V_alloc | apply Kd.V_drewN | apply Kd.V_drew)); exact HO0_2.out) gb139 (Nat.le_of_eq hg.symm)) hb); have n1_ := Aside0.mk (Kd.V_below (Kd.V_elderB (by (with_reducible repeat (first | apply Kd.V_alloc | apply Kd.V_drewN | apply Kd.V_drew)); exact HO0_3.out) gb139 (Nat.le_of_eq hg.symm)) hb); have n2_ := Aside0.mk (below_step (by repeat (first | (with_reducible first | exact HB.out | apply below_alloc | apply pw_below_drewN | apply below_drew1) | exact HB.out)) hb); have n3_ := Aside0.mk (hbox); have n4_ := Aside0.mk ((by rw [hg]; exact (below_size (by repeat (first | (with_reducible first | exact HB.out | apply below_alloc | apply pw_below_drewN | apply below_drew1) | exact HB.out))) : w.heap.size ≤ gb139)); have n5_ := Aside0.mk ((by rw [hg]; exact (below_size (by repeat (first | (with_reducible first | exact HB.out | apply below_alloc | apply pw_below_drewN | apply below_drew1) | exact HB.out))) : w.heap.size ≤ gb139)); clear HO0_2; clear HO0_3; clear HB; have HO0_2 := n0_; have HO0_3 := n1_; have HB := n2_; have BK139 := n3_; have GW139 := n4_; have GE139 := n5_; clear n0_ n1_ n2_ n3_ n4_ n5_; clear hb hbox hg) | ((with_reducible refine gate_dst (N := 2) rfl ?_); refine box_event ?hg (N := 2) ?hd (cs := #[.string (⟨#[]⟩ : ByteArray), .string (⟨#[]⟩ : ByteArray), .slice none 0 0, .slice none 0 0]) (t := 26) ?hr ?_; (case hd => rfl); (case hg => rfl); (case hr => first | (go_simp; done) | (go_simp; rfl)); intro gb140 hg w7 hbox hb; have n0_ := Aside0.mk (Kd.V_below (Kd.V_elderB (by (with_reducible repeat (first | apply Kd.V_alloc | apply Kd.V_drewN | apply Kd.V_drew)); exact HO0_2.out) gb140 (Nat.le_of_eq hg.symm)) hb); have n1_ := Aside0.mk (Kd.V_below (Kd.V_elderB (by (with_reducible repeat (first | apply Kd.V_alloc | apply Kd.V_drewN | apply Kd.V_drew)); exact HO0_3.out) gb140 (Nat.le_of_eq hg.symm)) hb); have n2_ := Aside0.mk (blk_below (g := gb139) (o := .cells #[.string a0_0, .string a0_1, .slice A0_2 l0_2.length c0_2, .slice A0_3 l0_3.length c0_3] 26 (0, 0)) (by (with_reducible repeat (first | refine blk_drewN ?_ _ | refine blk_drew ?_ | refine blk_alloc ?_ _)); exact BK139.out) hb); have n3_ := Aside0.mk (below_step (by repeat (first | (with_reducible first | exact HB.out | apply below_alloc | apply pw_below_drewN | apply below_drew1 | refine below_set ?_ GE139.out) | exact HB.out)) hb); have n4_ := Aside0.mk (hbox); have n5_ := Aside0.mk ((by rw [hg]; exact (below_size (by repeat (first | (with_reducible first | exact HB.out | apply below_alloc | apply pw_below_drewN | apply below_drew1 | refine below_set ?_ GE139.out) | exact HB.out))) : w.heap.size ≤ gb140)); have n6_ := Aside0.mk ((by rw [hg]; exact (below_size (by repeat (first | (with_reducible first | exact HB.out | apply below_alloc | apply pw_below_drewN | apply below_drew1 | refine below_set ?_ GE139.out) | exact HB.out))) : w.heap.size ≤ gb140)); have n7_ := Aside0.mk ((by rw [hg]; exact Nat.ne_of_lt (blk_lt (g := gb139) (o := .cells #[.string a0_0, .string a0_1, .slice A0_2 l0_2.length c0_2, .slice A0_3 l0_3.length c0_3] 26 (0, 0)) (by (with_reducible repeat (first | refine blk_drewN ?_ _ | refine blk_drew ?_ | refine blk_alloc ?_ _)); exact BK139.out)) : gb139 ≠ gb140)); have n8_ := Aside0.mk ((by rw [hg]; exact Nat.ne_of_gt (blk_lt (g := gb139) (o := .cells #[.string a0_0, .string a0_1, .slice A0_2 l0_2.length c0_2, .slice A0_3 l0_3.length c0_3] 26 (0, 0)) (by (with_reducible repeat (first | refine blk_drewN ?_ _ | refine blk_drew ?_ | refine blk_alloc ?_ _)); exact BK139.out)) : gb140 ≠ gb139)); clear HO0_2; clear HO0_3; clear BK139; clear HB; have HO0_2 := n0_; have HO0_3 := n1_; have BK139 := n2_; have HB := n3_; have BK140 := n4_; have GW140 := n5_; have GE140 := n6_; have NB139_140 := n7_; have NB140_139 := n8_; clear n0_ n1_ n2_ n3_ n4_ n5_ n6_ n7_ n8_; clear hb hbox hg; have hnb8 := NB139_140.out; have hnc8 := NB140_139.out; have hcz9_0 : w7.cell? ⟨gb139, 0, none⟩ = some (.string a0_0) := (blk_cell BK139.out 0).trans rfl; have hcz9_1 : w7.cell? ⟨gb139, 1, none⟩ = some (.string a0_1) := (blk_cell BK139.out 1).trans rfl; have hcz9_2 : w7.cell? ⟨gb139, 2, none⟩ = some (.slice A0_2 l0_2.length c0_2) := (blk_cell BK139.out 2).trans rfl; have hcz9_3 : w7.cell? ⟨gb139, 3, none⟩ = some (.slice A0_3 l0_3.length c0_3) := (blk_cell BK139.out 3).trans rfl; have hfz9_0 := blk_frozen BK139.out 0; have hfz9_1 := blk_frozen BK139.out 1; have hfz9_2 := blk_frozen BK139.out 2; have hfz9_3 := blk_frozen BK139.out 3; have q10 : (12 : Int) ≤ ((l0_2.length : Int) : Int) := of_decide_eq_true (by first | (with_reducible assumption) | assumption); obtain ⟨i010, hi010, _, hsz10, _⟩ := info_parts info9; have hroom10 : l0_2.length ≤ c0_2 := (Kd.V_reads' HO0_2.out).2.1; have hC10 : Kd.F Kd.string _ _ A0_2 l0_2.length l0_2 := (Kd.V_at (base := w.heap.size) HO0_2.out).2.2; have hcut10 := cut_to (P := Try.prog) 23 9 .i64 Try.underlying23 hi010 A0_2 l0_2.length c0_2 12 (by omega) q10 hroom10; have hr10 := Kd.F_take (m := 12) hC10 (by omega); have hy10 : y141.length = (12 : Int).toNat := (by rw [Ny141.out, List.length_take]; omega); rw [← Ny141.out] at hr10; rw [← hy10] at hcut10; have HO145 := Aside0.mk (show Kd.V Kd.string 9 _ w.heap.size _ (.slice A0_2 y141.length c0_2) y141 from Kd.V_mk (by omega) hr10); have HC145 := Aside0.mk (show y141.length ≤ c0_2 from by omega); clear hr10 hC10 hroom10 hi010 hsz10; have KY10 := Aside0.mk hy10; clear hy10; replace q10 := eq_true q10) | ((with_reducible refine gate_store (t := 23) (p := 10) rfl ?_); refine store_event (t := 23) (p := 10) (v := ?vo_w11) (w1 := (w7.setCell ⟨gb139, 2, none⟩ (.slice A0_2 y141.length c0_2))) ?hg ?ho ?hn ?hr ?_; (case ho => rfl); (case hg => rfl); (case hn => rfl); (case hr => first | (go_simp; done) | (go_simp; rfl)); intro w11 hw; have n0_ : Aside0 (Kd.V Kd.string 9 w11 w.heap.size (fun k_ => ((P0_2_ k_ ∨ P0_3_ k_) ∨ w.heap.size ≤ k_) ∧ k_ ≠ gb139 ∧ k_ ≠ gb140) (.slice A0_2 l0_2.length c0_2) l0_2) := ⟨(by rw [hw]; exact (by (with_reducible repeat (first | apply Kd.V_alloc | apply Kd.V_drewN | apply Kd.V_drew)); exact Kd.V_mono (Kd.V_far (p := ⟨gb139, 2, none⟩) (Kd.V_mono HO0_2.out (fun k_ hk => (⟨hk, hk.1.2⟩ : _ ∧ k_ ≠ gb139))) (fun _ hk => hk.2) (.slice A0_2 y141.length c0_2)) (fun _ hk => ⟨hk.1.1.1, ⟨hk.1.1.2, hk.1.2⟩⟩)))⟩; have n1_ : Aside0 (Kd.V k35 35 w11 w.heap.size (fun k_ => ((P0_2_ k_ ∨ P0_3_ k_) ∨ w.heap.size ≤ k_) ∧ k_ ≠ gb139 ∧ k_ ≠ gb140) (.slice A0_3 l0_3.length c0_3) l0_3) := ⟨(by rw [hw]; exact (by (with_reducible repeat (first | apply Kd.V_alloc | apply Kd.V_drewN | apply Kd.V_drew)); exact Kd.V_mono (Kd.V_far (p := ⟨gb139, 2, none⟩) (Kd.V_mono HO0_3.out (fun k_ hk => (⟨hk, hk.1.2⟩ : _ ∧ k_ ≠ gb139))) (fun _ hk => hk.2) (.slice A0_2 y141.length c0_2)) (fun _ hk => ⟨hk.1.1.1, ⟨hk.1.1.2, hk.1.2⟩⟩)))⟩; have n2_ : Aside0 (Kd.V Kd.string 9 w11 w.heap.size (fun k_ => ((P0_2_ k_ ∨ P0_3_ k_) ∨ w.heap.size ≤ k_) ∧ k_ ≠ gb139 ∧ k_ ≠ gb140) (.slice A0_2 y141.length c0_2) y141) := ⟨(by rw [hw]; exact (by (with_reducible repeat (first | apply Kd.V_alloc | apply Kd.V_drewN | apply Kd.V_drew)); exact Kd.V_mono (Kd.V_far (p := ⟨gb139, 2, none⟩) (Kd.V_mono HO145.out (fun k_ hk => (⟨hk, hk.1.2⟩ : _ ∧ k_ ≠ gb139))) (fun _ hk => hk.2) (.slice A0_2 y141.length c0_2)) (fun _ hk => ⟨hk.1.1.1, ⟨hk.1.1.2, hk.1.2⟩⟩)))⟩; have n3_ : Aside0 (w11.heap[gb139]? = some (.cells #[.string a0_0, .string a0_1, .slice A0_2 y141.length c0_2, .slice A0_3 l0_3.length c0_3] 26 (0, 0))) := ⟨(by rw [hw]; exact (by (with_reducible repeat (first | refine blk_drewN ?_ _ | refine blk_drew ?_ | refine blk_alloc ?_ _)); refine blk_put (cs := #[.string a0_0, .string a0_1, .slice A0_2 l0_2.length c0_2, .slice A0_3 l0_3.length c0_3]) ?_ 2 _ rfl; (with_reducible repeat (first | refine blk_drewN ?_ _ | refine blk_drew ?_ | refine blk_alloc ?_ _)); exact BK139.out))⟩; have n4_ : Aside0 (w11.heap[gb140]? = some (.cells #[.string (⟨#[]⟩ : ByteArray), .string (⟨#[]⟩ : ByteArray), .slice none 0 0, .slice none 0 0] 26 (0, 0))) := ⟨(by rw [hw]; exact (by (with_reducible repeat (first | refine blk_drewN ?_ _ | refine blk_drew ?_ | refine blk_alloc ?_ _)); refine blk_far ?_ NB140_139.out _; (with_reducible repeat (first | refine blk_drewN ?_ _ | refine blk_drew ?_ | refine blk_alloc ?_ _)); exact BK140.out))⟩; have n5_ : Aside0 (Below w.heap.size w w11) := ⟨(by rw [hw]; exact (by repeat (first | (with_reducible first | exact HB.out | apply below_alloc | apply pw_below_drewN | apply below_drew1 | refine below_set ?_ GE139.out | refine below_set ?_ GE140.out) | exact HB.out)))⟩; clear hw; clear HO0_2; clear HO0_3; clear HO145; clear BK139; clear BK140; clear HB; have HO0_2 := n0_; have HO0_3 := n1_; have HO145 := n2_; have BK139 := n3_; have BK140 := n4_; have HB := n5_; clear n0_ n1_ n2_ n3_ n4_ n5_; have hcz12_0 : w11.cell? ⟨gb139, 0, none⟩ = some (.string a0_0) := (blk_cell BK139.out 0).trans rfl; have hcz12_1 : w11.cell? ⟨gb139, 1, none⟩ = some (.string a0_1) := (blk_cell BK139.out 1).trans rfl; have hcz12_2 : w11.cell? ⟨gb139, 2, none⟩ = some (.slice A0_2 y141.length c0_2) := (blk_cell BK139.out 2).trans rfl; have hcz12_3 : w11.cell? ⟨gb139, 3, none⟩ = some (.slice A0_3 l0_3.length c0_3) := (blk_cell BK139.out 3).trans rfl; have hfz12_0 := blk_frozen BK139.out 0; have hfz12_1 := blk_frozen BK139.out 1; have hfz12_2 := blk_frozen BK139.out 2; have hfz12_3 := blk_frozen BK139.out 3; have q13 : (12 : Int) ≤ ((l0_3.length : Int) : Int) := of_decide_eq_true (by first | (with_reducible assumption) | assumption); obtain ⟨i013, hi013, _, hsz13, _⟩ := info_parts info35; have hroom13 : l0_3.length ≤ c0_3 := (Kd.V_reads' HO0_3.out).2.1; have hC13 : Kd.F k35 _ _ A0_3 l0_3.length l0_3 := (Kd.V_at (base := w.heap.size) HO0_3.out).2.2; have hcut13 := cut_to (P := Try.prog) 24 35 .i64 Try.underlying24 hi013 A0_3 l0_3.length c0_3 12 (by omega) q13 hroom13; have hr13 := Kd.F_take (m := 12) hC13 (by omega); have hy13 : y146.length = (12 : Int).toNat := (by rw [Ny146.out, List.length_take]; omega); rw [← Ny146.out] at hr13; rw [← hy13] at hcut13; have HO150 := Aside0.mk (show Kd.V k35 35 _ w.heap.size _ (.slice A0_3 y146.length c0_3) y146 from Kd.V_mk (by omega) hr13); have HC150 := Aside0.mk (show y146.length ≤ c0_3 from by omega); clear hr13 hC13 hroom13 hi013 hsz13; have KY13 := Aside0.mk hy13; clear hy13; replace q13 := eq_true q13; have hcz14_0 : w11.cell? ⟨gb140, 0, none⟩ = some (.string (⟨#[]⟩ : ByteArray)) := (blk_cell BK140.out 0).trans rfl; have hcz14_1 : w11.cell? ⟨gb140, 1, none⟩ = some (.string (⟨#[]⟩ : ByteArray)) := (blk_cell BK140.out 1).trans rfl; have hcz14_2 : w11.cell? ⟨gb140, 2, none⟩ = some (.slice none 0 0) := (blk_cell BK140.out 2).trans rfl; have hcz14_3 : w11.cell? ⟨gb140, 3, none⟩ = some (.slice none 0 0) := (blk_cell BK140.out 3).trans rfl; have hfz14_0 := blk_frozen BK140.out 0; have hfz14_1 := blk_frozen BK140.out 1; have hfz14_2 := blk_frozen BK140.out 2; have hfz14_3 := blk_frozen BK140.out 3))
          refine bodyPost_ret (results_cell_row rfl _ _ gb140 26 #[.string a0_0, .string a0_1, .slice A0_2 y141.length c0_2, .slice A0_3 y146.length c0_3] (0, 0) _ rfl (by (with_reducible repeat (first | refine blk_drewN ?_ _ | refine blk_drew ?_ | refine blk_alloc ?_ _)); refine blk_put (cs := #[.string a0_0, .string a0_1, .slice A0_2 y141.length c0_2, .slice none 0 0]) ?_ 3 _ rfl; (with_reducible repeat (first | refine blk_drewN ?_ _ | refine blk_drew ?_ | refine blk_alloc ?_ _)); refine blk_put (cs := #[.string a0_0, .string a0_1, .slice none 0 0, .slice none 0 0]) ?_ 2 _ rfl; (with_reducible repeat (first | refine blk_drewN ?_ _ | refine blk_drew ?_ | refine blk_alloc ?_ _)); refine blk_put (cs := #[.string a0_0, .string (⟨#[]⟩ : ByteArray), .slice none 0 0, .slice none 0 0]) ?_ 1 _ rfl; (with_reducible repeat (first | refine blk_drewN ?_ _ | refine blk_drew ?_ | refine blk_alloc ?_ _)); refine blk_put (cs := #[.string (⟨#[]⟩ : ByteArray), .string (⟨#[]⟩ : ByteArray), .slice none 0 0, .slice none 0 0]) ?_ 0 _ rfl; (with_reducible repeat (first | refine blk_drewN ?_ _ | refine blk_drew ?_ | refine blk_alloc ?_ _)); refine blk_far ?_ NB140_139.out _; (with_reducible repeat (first | refine blk_drewN ?_ _ | refine blk_drew ?_ | refine blk_alloc ?_ _)); exact BK140.out) Try.underlying26 rfl (by kernel_rfl)) rfl ?_
          exact ⟨_, _, by first | rfl | (simp [errW_none, errW_some] <;> rfl) | (simp [*, errW_none, errW_some] <;> rfl), by (with_reducible repeat (first | apply Kd.V_alloc | apply Kd.V_drewN | apply Kd.V_drew)); exact Kd.V_mono (Kd.V_far (p := ⟨gb140, 3, none⟩) (Kd.V_far (p := ⟨gb140, 2, none⟩) (Kd.V_far (p := ⟨gb140, 1, none⟩) (Kd.V_far (p := ⟨gb140, 0, none⟩) (Kd.V_far (p := ⟨gb139, 3, none⟩) (Kd.V_mono (Kd.V_mono HO145.out (fun k_ hk => (⟨hk, hk.2.1⟩ : _ ∧ k_ ≠ gb139))) (fun k_ hk => (⟨hk, hk.1.2.2⟩ : _ ∧ k_ ≠ gb140))) (fun _ hk => hk.1.2) (.slice A0_3 y146.length c0_3)) (fun _ hk => hk.2) (.string a0_0)) (fun _ hk => hk.2) (.string a0_1)) (fun _ hk => hk.2) (.slice A0_2 y141.length c0_2)) (fun _ hk => hk.2) (.slice A0_3 y146.length c0_3)) (fun _ hk => hk.1.1.1), by (with_reducible repeat (first | apply Kd.V_alloc | apply Kd.V_drewN | apply Kd.V_drew)); exact Kd.V_mono (Kd.V_far (p := ⟨gb140, 3, none⟩) (Kd.V_far (p := ⟨gb140, 2, none⟩) (Kd.V_far (p := ⟨gb140, 1, none⟩) (Kd.V_far (p := ⟨gb140, 0, none⟩) (Kd.V_far (p := ⟨gb139, 3, none⟩) (Kd.V_mono (Kd.V_mono HO150.out (fun k_ hk => (⟨hk, hk.2.1⟩ : _ ∧ k_ ≠ gb139))) (fun k_ hk => (⟨hk, hk.1.2.2⟩ : _ ∧ k_ ≠ gb140))) (fun _ hk => hk.1.2) (.slice A0_3 y146.length c0_3)) (fun _ hk => hk.2) (.string a0_0)) (fun _ hk => hk.2) (.string a0_1)) (fun _ hk => hk.2) (.slice A0_2 y141.length c0_2)) (fun _ hk => hk.2) (.slice A0_3 y146.length c0_3)) (fun _ hk => hk.1.1.1), by repeat (first | (with_reducible first | exact HB.out | apply below_alloc | apply pw_below_drewN | apply below_drew1 | refine below_set ?_ GE139.out | refine below_set ?_ GE140.out) | exact HB.out)⟩
        · rw [if_neg c5] at H
          exact absurd H (by simp)
      · rw [if_neg c4] at H
        have c4b0 : decide (12 < (l0_3.length : Int)) = false := decide_eq_false c4
        have c4b1 : decide (12 < l0_3.length) = false := decide_eq_false (by omega)
        clear c4
        simp only [Option.some.injEq, Prod.mk.injEq] at H
        obtain ⟨rfl, rfl, rfl, rfl⟩ := H
        go_enter Try.func11, Try.ntmps11
        go_wp2_with (first | ((with_reducible refine gate_dst (N := 1) rfl ?_); refine box_event ?hg (N := 1) ?hd (cs := #[.string a0_0, .string a0_1, .slice A0_2 l0_2.length c0_2, .slice A0_3 l0_3.length c0_3]) (t := 26) ?hr ?_; (case hd => rfl); (case hg => rfl); (case hr => first | (go_simp; done) | (go_simp; rfl)); intro gb139 hg w15 hbox hb; have n0_ := Aside0.mk (Kd.V_below (Kd.V_elderB (by (with_reducible repeat (first | apply Kd.V_alloc | apply Kd.V_drewN | apply Kd.V_drew)); exact HO0_2.out) gb139 (Nat.le_of_eq hg.symm)) hb); have n1_ := Aside0.mk (Kd.V_below (Kd.V_elderB (by (with_reducible repeat (first | apply Kd.V_alloc | apply Kd.V_drewN | apply Kd.V_drew)); exact HO0_3.out) gb139 (Nat.le_of_eq hg.symm)) hb); have n2_ := Aside0.mk (below_step (by repeat (first | (with_reducible first | exact HB.out | apply below_alloc | apply pw_below_drewN | apply below_drew1) | exact HB.out)) hb); have n3_ := Aside0.mk (hbox); have n4_ := Aside0.mk ((by rw [hg]; exact (below_size (by repeat (first | (with_reducible first | exact HB.out | apply below_alloc | apply pw_below_drewN | apply below_drew1) | exact HB.out))) : w.heap.size ≤ gb139)); have n5_ := Aside0.mk ((by rw [hg]; exact (below_size (by repeat (first | (with_reducible first | exact HB.out | apply below_alloc | apply pw_below_drewN | apply below_drew1) | exact HB.out))) : w.heap.size ≤ gb139)); clear HO0_2; clear HO0_3; clear HB; have HO0_2 := n0_; have HO0_3 := n1_; have HB := n2_; have BK139 := n3_; have GW139 := n4_; have GE139 := n5_; clear n0_ n1_ n2_ n3_ n4_ n5_; clear hb hbox hg) | ((with_reducible refine gate_dst (N := 2) rfl ?_); refine box_event ?hg (N := 2) ?hd (cs := #[.string (⟨#[]⟩ : ByteArray), .string (⟨#[]⟩ : ByteArray), .slice none 0 0, .slice none 0 0]) (t := 26) ?hr ?_; (case hd => rfl); (case hg => rfl); (case hr => first | (go_simp; done) | (go_simp; rfl)); intro gb140 hg w16 hbox hb; have n0_ := Aside0.mk (Kd.V_below (Kd.V_elderB (by (with_reducible repeat (first | apply Kd.V_alloc | apply Kd.V_drewN | apply Kd.V_drew)); exact HO0_2.out) gb140 (Nat.le_of_eq hg.symm)) hb); have n1_ := Aside0.mk (Kd.V_below (Kd.V_elderB (by (with_reducible repeat (first | apply Kd.V_alloc | apply Kd.V_drewN | apply Kd.V_drew)); exact HO0_3.out) gb140 (Nat.le_of_eq hg.symm)) hb); have n2_ := Aside0.mk (blk_below (g := gb139) (o := .cells #[.string a0_0, .string a0_1, .slice A0_2 l0_2.length c0_2, .slice A0_3 l0_3.length c0_3] 26 (0, 0)) (by (with_reducible repeat (first | refine blk_drewN ?_ _ | refine blk_drew ?_ | refine blk_alloc ?_ _)); exact BK139.out) hb); have n3_ := Aside0.mk (below_step (by repeat (first | (with_reducible first | exact HB.out | apply below_alloc | apply pw_below_drewN | apply below_drew1 | refine below_set ?_ GE139.out) | exact HB.out)) hb); have n4_ := Aside0.mk (hbox); have n5_ := Aside0.mk ((by rw [hg]; exact (below_size (by repeat (first | (with_reducible first | exact HB.out | apply below_alloc | apply pw_below_drewN | apply below_drew1 | refine below_set ?_ GE139.out) | exact HB.out))) : w.heap.size ≤ gb140)); have n6_ := Aside0.mk ((by rw [hg]; exact (below_size (by repeat (first | (with_reducible first | exact HB.out | apply below_alloc | apply pw_below_drewN | apply below_drew1 | refine below_set ?_ GE139.out) | exact HB.out))) : w.heap.size ≤ gb140)); have n7_ := Aside0.mk ((by rw [hg]; exact Nat.ne_of_lt (blk_lt (g := gb139) (o := .cells #[.string a0_0, .string a0_1, .slice A0_2 l0_2.length c0_2, .slice A0_3 l0_3.length c0_3] 26 (0, 0)) (by (with_reducible repeat (first | refine blk_drewN ?_ _ | refine blk_drew ?_ | refine blk_alloc ?_ _)); exact BK139.out)) : gb139 ≠ gb140)); have n8_ := Aside0.mk ((by rw [hg]; exact Nat.ne_of_gt (blk_lt (g := gb139) (o := .cells #[.string a0_0, .string a0_1, .slice A0_2 l0_2.length c0_2, .slice A0_3 l0_3.length c0_3] 26 (0, 0)) (by (with_reducible repeat (first | refine blk_drewN ?_ _ | refine blk_drew ?_ | refine blk_alloc ?_ _)); exact BK139.out)) : gb140 ≠ gb139)); clear HO0_2; clear HO0_3; clear BK139; clear HB; have HO0_2 := n0_; have HO0_3 := n1_; have BK139 := n2_; have HB := n3_; have BK140 := n4_; have GW140 := n5_; have GE140 := n6_; have NB139_140 := n7_; have NB140_139 := n8_; clear n0_ n1_ n2_ n3_ n4_ n5_ n6_ n7_ n8_; clear hb hbox hg; have hnb17 := NB139_140.out; have hnc17 := NB140_139.out; have hcz18_0 : w16.cell? ⟨gb139, 0, none⟩ = some (.string a0_0) := (blk_cell BK139.out 0).trans rfl; have hcz18_1 : w16.cell? ⟨gb139, 1, none⟩ = some (.string a0_1) := (blk_cell BK139.out 1).trans rfl; have hcz18_2 : w16.cell? ⟨gb139, 2, none⟩ = some (.slice A0_2 l0_2.length c0_2) := (blk_cell BK139.out 2).trans rfl; have hcz18_3 : w16.cell? ⟨gb139, 3, none⟩ = some (.slice A0_3 l0_3.length c0_3) := (blk_cell BK139.out 3).trans rfl; have hfz18_0 := blk_frozen BK139.out 0; have hfz18_1 := blk_frozen BK139.out 1; have hfz18_2 := blk_frozen BK139.out 2; have hfz18_3 := blk_frozen BK139.out 3; have q19 : (12 : Int) ≤ ((l0_2.length : Int) : Int) := of_decide_eq_true (by first | (with_reducible assumption) | assumption); obtain ⟨i019, hi019, _, hsz19, _⟩ := info_parts info9; have hroom19 : l0_2.length ≤ c0_2 := (Kd.V_reads' HO0_2.out).2.1; have hC19 : Kd.F Kd.string _ _ A0_2 l0_2.length l0_2 := (Kd.V_at (base := w.heap.size) HO0_2.out).2.2; have hcut19 := cut_to (P := Try.prog) 23 9 .i64 Try.underlying23 hi019 A0_2 l0_2.length c0_2 12 (by omega) q19 hroom19; have hr19 := Kd.F_take (m := 12) hC19 (by omega); have hy19 : y141.length = (12 : Int).toNat := (by rw [Ny141.out, List.length_take]; omega); rw [← Ny141.out] at hr19; rw [← hy19] at hcut19; have HO145 := Aside0.mk (show Kd.V Kd.string 9 _ w.heap.size _ (.slice A0_2 y141.length c0_2) y141 from Kd.V_mk (by omega) hr19); have HC145 := Aside0.mk (show y141.length ≤ c0_2 from by omega); clear hr19 hC19 hroom19 hi019 hsz19; have KY19 := Aside0.mk hy19; clear hy19; replace q19 := eq_true q19; have hcz20_0 : w16.cell? ⟨gb140, 0, none⟩ = some (.string (⟨#[]⟩ : ByteArray)) := (blk_cell BK140.out 0).trans rfl; have hcz20_1 : w16.cell? ⟨gb140, 1, none⟩ = some (.string (⟨#[]⟩ : ByteArray)) := (blk_cell BK140.out 1).trans rfl; have hcz20_2 : w16.cell? ⟨gb140, 2, none⟩ = some (.slice none 0 0) := (blk_cell BK140.out 2).trans rfl; have hcz20_3 : w16.cell? ⟨gb140, 3, none⟩ = some (.slice none 0 0) := (blk_cell BK140.out 3).trans rfl; have hfz20_0 := blk_frozen BK140.out 0; have hfz20_1 := blk_frozen BK140.out 1; have hfz20_2 := blk_frozen BK140.out 2; have hfz20_3 := blk_frozen BK140.out 3))
        refine bodyPost_ret (results_cell_row rfl _ _ gb140 26 #[.string a0_0, .string a0_1, .slice A0_2 y141.length c0_2, .slice A0_3 l0_3.length c0_3] (0, 0) _ rfl (by (with_reducible repeat (first | refine blk_drewN ?_ _ | refine blk_drew ?_ | refine blk_alloc ?_ _)); refine blk_put (cs := #[.string a0_0, .string a0_1, .slice A0_2 y141.length c0_2, .slice none 0 0]) ?_ 3 _ rfl; (with_reducible repeat (first | refine blk_drewN ?_ _ | refine blk_drew ?_ | refine blk_alloc ?_ _)); refine blk_put (cs := #[.string a0_0, .string a0_1, .slice none 0 0, .slice none 0 0]) ?_ 2 _ rfl; (with_reducible repeat (first | refine blk_drewN ?_ _ | refine blk_drew ?_ | refine blk_alloc ?_ _)); refine blk_put (cs := #[.string a0_0, .string (⟨#[]⟩ : ByteArray), .slice none 0 0, .slice none 0 0]) ?_ 1 _ rfl; (with_reducible repeat (first | refine blk_drewN ?_ _ | refine blk_drew ?_ | refine blk_alloc ?_ _)); refine blk_put (cs := #[.string (⟨#[]⟩ : ByteArray), .string (⟨#[]⟩ : ByteArray), .slice none 0 0, .slice none 0 0]) ?_ 0 _ rfl; (with_reducible repeat (first | refine blk_drewN ?_ _ | refine blk_drew ?_ | refine blk_alloc ?_ _)); refine blk_far ?_ NB140_139.out _; (with_reducible repeat (first | refine blk_drewN ?_ _ | refine blk_drew ?_ | refine blk_alloc ?_ _)); exact BK140.out) Try.underlying26 rfl (by kernel_rfl)) rfl ?_
        exact ⟨_, _, by first | rfl | (simp [errW_none, errW_some] <;> rfl) | (simp [*, errW_none, errW_some] <;> rfl), by (with_reducible repeat (first | apply Kd.V_alloc | apply Kd.V_drewN | apply Kd.V_drew)); exact Kd.V_mono (Kd.V_far (p := ⟨gb140, 3, none⟩) (Kd.V_far (p := ⟨gb140, 2, none⟩) (Kd.V_far (p := ⟨gb140, 1, none⟩) (Kd.V_far (p := ⟨gb140, 0, none⟩) (Kd.V_far (p := ⟨gb139, 2, none⟩) (Kd.V_mono (Kd.V_mono HO145.out (fun k_ hk => (⟨hk, hk.1.2⟩ : _ ∧ k_ ≠ gb139))) (fun k_ hk => (⟨hk, hk.1.2⟩ : _ ∧ k_ ≠ gb140))) (fun _ hk => hk.1.2) (.slice A0_2 y141.length c0_2)) (fun _ hk => hk.2) (.string a0_0)) (fun _ hk => hk.2) (.string a0_1)) (fun _ hk => hk.2) (.slice A0_2 y141.length c0_2)) (fun _ hk => hk.2) (.slice A0_3 l0_3.length c0_3)) (fun _ hk => hk.1.1.1.1), by (with_reducible repeat (first | apply Kd.V_alloc | apply Kd.V_drewN | apply Kd.V_drew)); exact Kd.V_mono (Kd.V_far (p := ⟨gb140, 3, none⟩) (Kd.V_far (p := ⟨gb140, 2, none⟩) (Kd.V_far (p := ⟨gb140, 1, none⟩) (Kd.V_far (p := ⟨gb140, 0, none⟩) (Kd.V_far (p := ⟨gb139, 2, none⟩) (Kd.V_mono (Kd.V_mono HO0_3.out (fun k_ hk => (⟨hk, hk.1.2⟩ : _ ∧ k_ ≠ gb139))) (fun k_ hk => (⟨hk, hk.1.2⟩ : _ ∧ k_ ≠ gb140))) (fun _ hk => hk.1.2) (.slice A0_2 y141.length c0_2)) (fun _ hk => hk.2) (.string a0_0)) (fun _ hk => hk.2) (.string a0_1)) (fun _ hk => hk.2) (.slice A0_2 y141.length c0_2)) (fun _ hk => hk.2) (.slice A0_3 l0_3.length c0_3)) (fun _ hk => hk.1.1.1.1), by repeat (first | (with_reducible first | exact HB.out | apply below_alloc | apply pw_below_drewN | apply below_drew1 | refine below_set ?_ GE139.out | refine below_set ?_ GE140.out) | exact HB.out)⟩
    · rw [if_neg c3] at H
      exact absurd H (by simp)
  · rw [if_neg c2] at H
    have c2b0 : decide (12 < (l0_2.length : Int)) = false := decide_eq_false c2
    have c2b1 : decide (12 < l0_2.length) = false := decide_eq_false (by omega)
    clear c2
    by_cases c21 : (l0_3.length : Int) > 12
    · rw [if_pos c21] at H
      have c21b0 : decide (12 < (l0_3.length : Int)) = true := decide_eq_true c21
      have c21b1 : decide (12 < l0_3.length) = true := decide_eq_true (by omega)
      clear c21
      by_cases c22 : 12 ≤ (l0_3.length : Int)
      · rw [if_pos c22] at H
        have c22b0 := eq_true c22
        have c22b1 : decide (12 ≤ (l0_3.length : Int)) = true := decide_eq_true c22
        clear c22
        obtain ⟨y151, hy151⟩ : ∃ y_ : List (S35), y_ = (l0_3.take 12) := ⟨_, rfl⟩
        replace H : (some (a0_0, a0_1, l0_2, y151)) = some (r1, r2, r3, r4) := by first | (rw [hy151]; with_reducible exact H) | (have H2_ := (Option.bind_some _ _).symm.trans H; rw [hy151]; with_reducible exact H2_) | (have H2_ := (Option.bind_some _ _).symm.trans H; with_reducible exact H2_) | with_reducible exact H | (rw [hy151]; exact H) | exact H
        have Ny151 := Aside0.mk hy151
        clear hy151
        simp only [Option.some.injEq, Prod.mk.injEq] at H
        obtain ⟨rfl, rfl, rfl, rfl⟩ := H
        go_enter Try.func11, Try.ntmps11
        go_wp2_with (first | ((with_reducible refine gate_dst (N := 1) rfl ?_); refine box_event ?hg (N := 1) ?hd (cs := #[.string a0_0, .string a0_1, .slice A0_2 l0_2.length c0_2, .slice A0_3 l0_3.length c0_3]) (t := 26) ?hr ?_; (case hd => rfl); (case hg => rfl); (case hr => first | (go_simp; done) | (go_simp; rfl)); intro gb139 hg w23 hbox hb; have n0_ := Aside0.mk (Kd.V_below (Kd.V_elderB (by (with_reducible repeat (first | apply Kd.V_alloc | apply Kd.V_drewN | apply Kd.V_drew)); exact HO0_2.out) gb139 (Nat.le_of_eq hg.symm)) hb); have n1_ := Aside0.mk (Kd.V_below (Kd.V_elderB (by (with_reducible repeat (first | apply Kd.V_alloc | apply Kd.V_drewN | apply Kd.V_drew)); exact HO0_3.out) gb139 (Nat.le_of_eq hg.symm)) hb); have n2_ := Aside0.mk (below_step (by repeat (first | (with_reducible first | exact HB.out | apply below_alloc | apply pw_below_drewN | apply below_drew1) | exact HB.out)) hb); have n3_ := Aside0.mk (hbox); have n4_ := Aside0.mk ((by rw [hg]; exact (below_size (by repeat (first | (with_reducible first | exact HB.out | apply below_alloc | apply pw_below_drewN | apply below_drew1) | exact HB.out))) : w.heap.size ≤ gb139)); have n5_ := Aside0.mk ((by rw [hg]; exact (below_size (by repeat (first | (with_reducible first | exact HB.out | apply below_alloc | apply pw_below_drewN | apply below_drew1) | exact HB.out))) : w.heap.size ≤ gb139)); clear HO0_2; clear HO0_3; clear HB; have HO0_2 := n0_; have HO0_3 := n1_; have HB := n2_; have BK139 := n3_; have GW139 := n4_; have GE139 := n5_; clear n0_ n1_ n2_ n3_ n4_ n5_; clear hb hbox hg) | ((with_reducible refine gate_dst (N := 2) rfl ?_); refine box_event ?hg (N := 2) ?hd (cs := #[.string (⟨#[]⟩ : ByteArray), .string (⟨#[]⟩ : ByteArray), .slice none 0 0, .slice none 0 0]) (t := 26) ?hr ?_; (case hd => rfl); (case hg => rfl); (case hr => first | (go_simp; done) | (go_simp; rfl)); intro gb140 hg w24 hbox hb; have n0_ := Aside0.mk (Kd.V_below (Kd.V_elderB (by (with_reducible repeat (first | apply Kd.V_alloc | apply Kd.V_drewN | apply Kd.V_drew)); exact HO0_2.out) gb140 (Nat.le_of_eq hg.symm)) hb); have n1_ := Aside0.mk (Kd.V_below (Kd.V_elderB (by (with_reducible repeat (first | apply Kd.V_alloc | apply Kd.V_drewN | apply Kd.V_drew)); exact HO0_3.out) gb140 (Nat.le_of_eq hg.symm)) hb); have n2_ := Aside0.mk (blk_below (g := gb139) (o := .cells #[.string a0_0, .string a0_1, .slice A0_2 l0_2.length c0_2, .slice A0_3 l0_3.length c0_3] 26 (0, 0)) (by (with_reducible repeat (first | refine blk_drewN ?_ _ | refine blk_drew ?_ | refine blk_alloc ?_ _)); exact BK139.out) hb); have n3_ := Aside0.mk (below_step (by repeat (first | (with_reducible first | exact HB.out | apply below_alloc | apply pw_below_drewN | apply below_drew1 | refine below_set ?_ GE139.out) | exact HB.out)) hb); have n4_ := Aside0.mk (hbox); have n5_ := Aside0.mk ((by rw [hg]; exact (below_size (by repeat (first | (with_reducible first | exact HB.out | apply below_alloc | apply pw_below_drewN | apply below_drew1 | refine below_set ?_ GE139.out) | exact HB.out))) : w.heap.size ≤ gb140)); have n6_ := Aside0.mk ((by rw [hg]; exact (below_size (by repeat (first | (with_reducible first | exact HB.out | apply below_alloc | apply pw_below_drewN | apply below_drew1 | refine below_set ?_ GE139.out) | exact HB.out))) : w.heap.size ≤ gb140)); have n7_ := Aside0.mk ((by rw [hg]; exact Nat.ne_of_lt (blk_lt (g := gb139) (o := .cells #[.string a0_0, .string a0_1, .slice A0_2 l0_2.length c0_2, .slice A0_3 l0_3.length c0_3] 26 (0, 0)) (by (with_reducible repeat (first | refine blk_drewN ?_ _ | refine blk_drew ?_ | refine blk_alloc ?_ _)); exact BK139.out)) : gb139 ≠ gb140)); have n8_ := Aside0.mk ((by rw [hg]; exact Nat.ne_of_gt (blk_lt (g := gb139) (o := .cells #[.string a0_0, .string a0_1, .slice A0_2 l0_2.length c0_2, .slice A0_3 l0_3.length c0_3] 26 (0, 0)) (by (with_reducible repeat (first | refine blk_drewN ?_ _ | refine blk_drew ?_ | refine blk_alloc ?_ _)); exact BK139.out)) : gb140 ≠ gb139)); clear HO0_2; clear HO0_3; clear BK139; clear HB; have HO0_2 := n0_; have HO0_3 := n1_; have BK139 := n2_; have HB := n3_; have BK140 := n4_; have GW140 := n5_; have GE140 := n6_; have NB139_140 := n7_; have NB140_139 := n8_; clear n0_ n1_ n2_ n3_ n4_ n5_ n6_ n7_ n8_; clear hb hbox hg; have hnb25 := NB139_140.out; have hnc25 := NB140_139.out; have hcz26_0 : w24.cell? ⟨gb139, 0, none⟩ = some (.string a0_0) := (blk_cell BK139.out 0).trans rfl; have hcz26_1 : w24.cell? ⟨gb139, 1, none⟩ = some (.string a0_1) := (blk_cell BK139.out 1).trans rfl; have hcz26_2 : w24.cell? ⟨gb139, 2, none⟩ = some (.slice A0_2 l0_2.length c0_2) := (blk_cell BK139.out 2).trans rfl; have hcz26_3 : w24.cell? ⟨gb139, 3, none⟩ = some (.slice A0_3 l0_3.length c0_3) := (blk_cell BK139.out 3).trans rfl; have hfz26_0 := blk_frozen BK139.out 0; have hfz26_1 := blk_frozen BK139.out 1; have hfz26_2 := blk_frozen BK139.out 2; have hfz26_3 := blk_frozen BK139.out 3; have q27 : (12 : Int) ≤ ((l0_3.length : Int) : Int) := of_decide_eq_true (by first | (with_reducible assumption) | assumption); obtain ⟨i027, hi027, _, hsz27, _⟩ := info_parts info35; have hroom27 : l0_3.length ≤ c0_3 := (Kd.V_reads' HO0_3.out).2.1; have hC27 : Kd.F k35 _ _ A0_3 l0_3.length l0_3 := (Kd.V_at (base := w.heap.size) HO0_3.out).2.2; have hcut27 := cut_to (P := Try.prog) 24 35 .i64 Try.underlying24 hi027 A0_3 l0_3.length c0_3 12 (by omega) q27 hroom27; have hr27 := Kd.F_take (m := 12) hC27 (by omega); have hy27 : y151.length = (12 : Int).toNat := (by rw [Ny151.out, List.length_take]; omega); rw [← Ny151.out] at hr27; rw [← hy27] at hcut27; have HO155 := Aside0.mk (show Kd.V k35 35 _ w.heap.size _ (.slice A0_3 y151.length c0_3) y151 from Kd.V_mk (by omega) hr27); have HC155 := Aside0.mk (show y151.length ≤ c0_3 from by omega); clear hr27 hC27 hroom27 hi027 hsz27; have KY27 := Aside0.mk hy27; clear hy27; replace q27 := eq_true q27; have hcz28_0 : w24.cell? ⟨gb140, 0, none⟩ = some (.string (⟨#[]⟩ : ByteArray)) := (blk_cell BK140.out 0).trans rfl; have hcz28_1 : w24.cell? ⟨gb140, 1, none⟩ = some (.string (⟨#[]⟩ : ByteArray)) := (blk_cell BK140.out 1).trans rfl; have hcz28_2 : w24.cell? ⟨gb140, 2, none⟩ = some (.slice none 0 0) := (blk_cell BK140.out 2).trans rfl; have hcz28_3 : w24.cell? ⟨gb140, 3, none⟩ = some (.slice none 0 0) := (blk_cell BK140.out 3).trans rfl; have hfz28_0 := blk_frozen BK140.out 0; have hfz28_1 := blk_frozen BK140.out 1; have hfz28_2 := blk_frozen BK140.out 2; have hfz28_3 := blk_frozen BK140.out 3))
        refine bodyPost_ret (results_cell_row rfl _ _ gb140 26 #[.string a0_0, .string a0_1, .slice A0_2 l0_2.length c0_2, .slice A0_3 y151.length c0_3] (0, 0) _ rfl (by (with_reducible repeat (first | refine blk_drewN ?_ _ | refine blk_drew ?_ | refine blk_alloc ?_ _)); refine blk_put (cs := #[.string a0_0, .string a0_1, .slice A0_2 l0_2.length c0_2, .slice none 0 0]) ?_ 3 _ rfl; (with_reducible repeat (first | refine blk_drewN ?_ _ | refine blk_drew ?_ | refine blk_alloc ?_ _)); refine blk_put (cs := #[.string a0_0, .string a0_1, .slice none 0 0, .slice none 0 0]) ?_ 2 _ rfl; (with_reducible repeat (first | refine blk_drewN ?_ _ | refine blk_drew ?_ | refine blk_alloc ?_ _)); refine blk_put (cs := #[.string a0_0, .string (⟨#[]⟩ : ByteArray), .slice none 0 0, .slice none 0 0]) ?_ 1 _ rfl; (with_reducible repeat (first | refine blk_drewN ?_ _ | refine blk_drew ?_ | refine blk_alloc ?_ _)); refine blk_put (cs := #[.string (⟨#[]⟩ : ByteArray), .string (⟨#[]⟩ : ByteArray), .slice none 0 0, .slice none 0 0]) ?_ 0 _ rfl; (with_reducible repeat (first | refine blk_drewN ?_ _ | refine blk_drew ?_ | refine blk_alloc ?_ _)); refine blk_far ?_ NB140_139.out _; (with_reducible repeat (first | refine blk_drewN ?_ _ | refine blk_drew ?_ | refine blk_alloc ?_ _)); exact BK140.out) Try.underlying26 rfl (by kernel_rfl)) rfl ?_
        exact ⟨_, _, by first | rfl | (simp [errW_none, errW_some] <;> rfl) | (simp [*, errW_none, errW_some] <;> rfl), by (with_reducible repeat (first | apply Kd.V_alloc | apply Kd.V_drewN | apply Kd.V_drew)); exact Kd.V_mono (Kd.V_far (p := ⟨gb140, 3, none⟩) (Kd.V_far (p := ⟨gb140, 2, none⟩) (Kd.V_far (p := ⟨gb140, 1, none⟩) (Kd.V_far (p := ⟨gb140, 0, none⟩) (Kd.V_far (p := ⟨gb139, 3, none⟩) (Kd.V_mono (Kd.V_mono HO0_2.out (fun k_ hk => (⟨hk, hk.1.2⟩ : _ ∧ k_ ≠ gb139))) (fun k_ hk => (⟨hk, hk.1.2⟩ : _ ∧ k_ ≠ gb140))) (fun _ hk => hk.1.2) (.slice A0_3 y151.length c0_3)) (fun _ hk => hk.2) (.string a0_0)) (fun _ hk => hk.2) (.string a0_1)) (fun _ hk => hk.2) (.slice A0_2 l0_2.length c0_2)) (fun _ hk => hk.2) (.slice A0_3 y151.length c0_3)) (fun _ hk => hk.1.1.1.1), by (with_reducible repeat (first | apply Kd.V_alloc | apply Kd.V_drewN | apply Kd.V_drew)); exact Kd.V_mono (Kd.V_far (p := ⟨gb140, 3, none⟩) (Kd.V_far (p := ⟨gb140, 2, none⟩) (Kd.V_far (p := ⟨gb140, 1, none⟩) (Kd.V_far (p := ⟨gb140, 0, none⟩) (Kd.V_far (p := ⟨gb139, 3, none⟩) (Kd.V_mono (Kd.V_mono HO155.out (fun k_ hk => (⟨hk, hk.1.2⟩ : _ ∧ k_ ≠ gb139))) (fun k_ hk => (⟨hk, hk.1.2⟩ : _ ∧ k_ ≠ gb140))) (fun _ hk => hk.1.2) (.slice A0_3 y151.length c0_3)) (fun _ hk => hk.2) (.string a0_0)) (fun _ hk => hk.2) (.string a0_1)) (fun _ hk => hk.2) (.slice A0_2 l0_2.length c0_2)) (fun _ hk => hk.2) (.slice A0_3 y151.length c0_3)) (fun _ hk => hk.1.1.1.1), by repeat (first | (with_reducible first | exact HB.out | apply below_alloc | apply pw_below_drewN | apply below_drew1 | refine below_set ?_ GE139.out | refine below_set ?_ GE140.out) | exact HB.out)⟩
      · rw [if_neg c22] at H
        exact absurd H (by simp)
    · rw [if_neg c21] at H
      have c21b0 : decide (12 < (l0_3.length : Int)) = false := decide_eq_false c21
      have c21b1 : decide (12 < l0_3.length) = false := decide_eq_false (by omega)
      clear c21
      simp only [Option.some.injEq, Prod.mk.injEq] at H
      obtain ⟨rfl, rfl, rfl, rfl⟩ := H
      go_enter Try.func11, Try.ntmps11
      go_wp2_with (first | ((with_reducible refine gate_dst (N := 1) rfl ?_); refine box_event ?hg (N := 1) ?hd (cs := #[.string a0_0, .string a0_1, .slice A0_2 l0_2.length c0_2, .slice A0_3 l0_3.length c0_3]) (t := 26) ?hr ?_; (case hd => rfl); (case hg => rfl); (case hr => first | (go_simp; done) | (go_simp; rfl)); intro gb139 hg w29 hbox hb; have n0_ := Aside0.mk (Kd.V_below (Kd.V_elderB (by (with_reducible repeat (first | apply Kd.V_alloc | apply Kd.V_drewN | apply Kd.V_drew)); exact HO0_2.out) gb139 (Nat.le_of_eq hg.symm)) hb); have n1_ := Aside0.mk (Kd.V_below (Kd.V_elderB (by (with_reducible repeat (first | apply Kd.V_alloc | apply Kd.V_drewN | apply Kd.V_drew)); exact HO0_3.out) gb139 (Nat.le_of_eq hg.symm)) hb); have n2_ := Aside0.mk (below_step (by repeat (first | (with_reducible first | exact HB.out | apply below_alloc | apply pw_below_drewN | apply below_drew1) | exact HB.out)) hb); have n3_ := Aside0.mk (hbox); have n4_ := Aside0.mk ((by rw [hg]; exact (below_size (by repeat (first | (with_reducible first | exact HB.out | apply below_alloc | apply pw_below_drewN | apply below_drew1) | exact HB.out))) : w.heap.size ≤ gb139)); have n5_ := Aside0.mk ((by rw [hg]; exact (below_size (by repeat (first | (with_reducible first | exact HB.out | apply below_alloc | apply pw_below_drewN | apply below_drew1) | exact HB.out))) : w.heap.size ≤ gb139)); clear HO0_2; clear HO0_3; clear HB; have HO0_2 := n0_; have HO0_3 := n1_; have HB := n2_; have BK139 := n3_; have GW139 := n4_; have GE139 := n5_; clear n0_ n1_ n2_ n3_ n4_ n5_; clear hb hbox hg) | ((with_reducible refine gate_dst (N := 2) rfl ?_); refine box_event ?hg (N := 2) ?hd (cs := #[.string (⟨#[]⟩ : ByteArray), .string (⟨#[]⟩ : ByteArray), .slice none 0 0, .slice none 0 0]) (t := 26) ?hr ?_; (case hd => rfl); (case hg => rfl); (case hr => first | (go_simp; done) | (go_simp; rfl)); intro gb140 hg w30 hbox hb; have n0_ := Aside0.mk (Kd.V_below (Kd.V_elderB (by (with_reducible repeat (first | apply Kd.V_alloc | apply Kd.V_drewN | apply Kd.V_drew)); exact HO0_2.out) gb140 (Nat.le_of_eq hg.symm)) hb); have n1_ := Aside0.mk (Kd.V_below (Kd.V_elderB (by (with_reducible repeat (first | apply Kd.V_alloc | apply Kd.V_drewN | apply Kd.V_drew)); exact HO0_3.out) gb140 (Nat.le_of_eq hg.symm)) hb); have n2_ := Aside0.mk (blk_below (g := gb139) (o := .cells #[.string a0_0, .string a0_1, .slice A0_2 l0_2.length c0_2, .slice A0_3 l0_3.length c0_3] 26 (0, 0)) (by (with_reducible repeat (first | refine blk_drewN ?_ _ | refine blk_drew ?_ | refine blk_alloc ?_ _)); exact BK139.out) hb); have n3_ := Aside0.mk (below_step (by repeat (first | (with_reducible first | exact HB.out | apply below_alloc | apply pw_below_drewN | apply below_drew1 | refine below_set ?_ GE139.out) | exact HB.out)) hb); have n4_ := Aside0.mk (hbox); have n5_ := Aside0.mk ((by rw [hg]; exact (below_size (by repeat (first | (with_reducible first | exact HB.out | apply below_alloc | apply pw_below_drewN | apply below_drew1 | refine below_set ?_ GE139.out) | exact HB.out))) : w.heap.size ≤ gb140)); have n6_ := Aside0.mk ((by rw [hg]; exact (below_size (by repeat (first | (with_reducible first | exact HB.out | apply below_alloc | apply pw_below_drewN | apply below_drew1 | refine below_set ?_ GE139.out) | exact HB.out))) : w.heap.size ≤ gb140)); have n7_ := Aside0.mk ((by rw [hg]; exact Nat.ne_of_lt (blk_lt (g := gb139) (o := .cells #[.string a0_0, .string a0_1, .slice A0_2 l0_2.length c0_2, .slice A0_3 l0_3.length c0_3] 26 (0, 0)) (by (with_reducible repeat (first | refine blk_drewN ?_ _ | refine blk_drew ?_ | refine blk_alloc ?_ _)); exact BK139.out)) : gb139 ≠ gb140)); have n8_ := Aside0.mk ((by rw [hg]; exact Nat.ne_of_gt (blk_lt (g := gb139) (o := .cells #[.string a0_0, .string a0_1, .slice A0_2 l0_2.length c0_2, .slice A0_3 l0_3.length c0_3] 26 (0, 0)) (by (with_reducible repeat (first | refine blk_drewN ?_ _ | refine blk_drew ?_ | refine blk_alloc ?_ _)); exact BK139.out)) : gb140 ≠ gb139)); clear HO0_2; clear HO0_3; clear BK139; clear HB; have HO0_2 := n0_; have HO0_3 := n1_; have BK139 := n2_; have HB := n3_; have BK140 := n4_; have GW140 := n5_; have GE140 := n6_; have NB139_140 := n7_; have NB140_139 := n8_; clear n0_ n1_ n2_ n3_ n4_ n5_ n6_ n7_ n8_; clear hb hbox hg; have hnb31 := NB139_140.out; have hnc31 := NB140_139.out; have hcz32_0 : w30.cell? ⟨gb139, 0, none⟩ = some (.string a0_0) := (blk_cell BK139.out 0).trans rfl; have hcz32_1 : w30.cell? ⟨gb139, 1, none⟩ = some (.string a0_1) := (blk_cell BK139.out 1).trans rfl; have hcz32_2 : w30.cell? ⟨gb139, 2, none⟩ = some (.slice A0_2 l0_2.length c0_2) := (blk_cell BK139.out 2).trans rfl; have hcz32_3 : w30.cell? ⟨gb139, 3, none⟩ = some (.slice A0_3 l0_3.length c0_3) := (blk_cell BK139.out 3).trans rfl; have hfz32_0 := blk_frozen BK139.out 0; have hfz32_1 := blk_frozen BK139.out 1; have hfz32_2 := blk_frozen BK139.out 2; have hfz32_3 := blk_frozen BK139.out 3; have hcz33_0 : w30.cell? ⟨gb140, 0, none⟩ = some (.string (⟨#[]⟩ : ByteArray)) := (blk_cell BK140.out 0).trans rfl; have hcz33_1 : w30.cell? ⟨gb140, 1, none⟩ = some (.string (⟨#[]⟩ : ByteArray)) := (blk_cell BK140.out 1).trans rfl; have hcz33_2 : w30.cell? ⟨gb140, 2, none⟩ = some (.slice none 0 0) := (blk_cell BK140.out 2).trans rfl; have hcz33_3 : w30.cell? ⟨gb140, 3, none⟩ = some (.slice none 0 0) := (blk_cell BK140.out 3).trans rfl; have hfz33_0 := blk_frozen BK140.out 0; have hfz33_1 := blk_frozen BK140.out 1; have hfz33_2 := blk_frozen BK140.out 2; have hfz33_3 := blk_frozen BK140.out 3))
      refine bodyPost_ret (results_cell_row rfl _ _ gb140 26 #[.string a0_0, .string a0_1, .slice A0_2 l0_2.length c0_2, .slice A0_3 l0_3.length c0_3] (0, 0) _ rfl (by (with_reducible repeat (first | refine blk_drewN ?_ _ | refine blk_drew ?_ | refine blk_alloc ?_ _)); refine blk_put (cs := #[.string a0_0, .string a0_1, .slice A0_2 l0_2.length c0_2, .slice none 0 0]) ?_ 3 _ rfl; (with_reducible repeat (first | refine blk_drewN ?_ _ | refine blk_drew ?_ | refine blk_alloc ?_ _)); refine blk_put (cs := #[.string a0_0, .string a0_1, .slice none 0 0, .slice none 0 0]) ?_ 2 _ rfl; (with_reducible repeat (first | refine blk_drewN ?_ _ | refine blk_drew ?_ | refine blk_alloc ?_ _)); refine blk_put (cs := #[.string a0_0, .string (⟨#[]⟩ : ByteArray), .slice none 0 0, .slice none 0 0]) ?_ 1 _ rfl; (with_reducible repeat (first | refine blk_drewN ?_ _ | refine blk_drew ?_ | refine blk_alloc ?_ _)); refine blk_put (cs := #[.string (⟨#[]⟩ : ByteArray), .string (⟨#[]⟩ : ByteArray), .slice none 0 0, .slice none 0 0]) ?_ 0 _ rfl; (with_reducible repeat (first | refine blk_drewN ?_ _ | refine blk_drew ?_ | refine blk_alloc ?_ _)); exact BK140.out) Try.underlying26 rfl (by kernel_rfl)) rfl ?_
      exact ⟨_, _, by first | rfl | (simp [errW_none, errW_some] <;> rfl) | (simp [*, errW_none, errW_some] <;> rfl), by (with_reducible repeat (first | apply Kd.V_alloc | apply Kd.V_drewN | apply Kd.V_drew)); exact Kd.V_mono (Kd.V_far (p := ⟨gb140, 3, none⟩) (Kd.V_far (p := ⟨gb140, 2, none⟩) (Kd.V_far (p := ⟨gb140, 1, none⟩) (Kd.V_far (p := ⟨gb140, 0, none⟩) (Kd.V_mono HO0_2.out (fun k_ hk => (⟨hk, hk.2⟩ : _ ∧ k_ ≠ gb140))) (fun _ hk => hk.2) (.string a0_0)) (fun _ hk => hk.2) (.string a0_1)) (fun _ hk => hk.2) (.slice A0_2 l0_2.length c0_2)) (fun _ hk => hk.2) (.slice A0_3 l0_3.length c0_3)) (fun _ hk => hk.1.1.1), by (with_reducible repeat (first | apply Kd.V_alloc | apply Kd.V_drewN | apply Kd.V_drew)); exact Kd.V_mono (Kd.V_far (p := ⟨gb140, 3, none⟩) (Kd.V_far (p := ⟨gb140, 2, none⟩) (Kd.V_far (p := ⟨gb140, 1, none⟩) (Kd.V_far (p := ⟨gb140, 0, none⟩) (Kd.V_mono HO0_3.out (fun k_ hk => (⟨hk, hk.2⟩ : _ ∧ k_ ≠ gb140))) (fun _ hk => hk.2) (.string a0_0)) (fun _ hk => hk.2) (.string a0_1)) (fun _ hk => hk.2) (.slice A0_2 l0_2.length c0_2)) (fun _ hk => hk.2) (.slice A0_3 l0_3.length c0_3)) (fun _ hk => hk.1.1.1), by repeat (first | (with_reducible first | exact HB.out | apply below_alloc | apply pw_below_drewN | apply below_drew1 | refine below_set ?_ GE139.out | refine below_set ?_ GE140.out) | exact HB.out)⟩

end Go.Proofs.Ytmnidohgnnpeiaa.Prt
namespace Go.Proofs.Ytmnidohgnnpeiaa.Prt
open Go.RowKit Go.Proofs.YtmnidohgnnpeiaaW.PrintWords Go.Proofs.YtmnidohgnnpeiaaW.PrintLast Go.Proofs.YtmnidohgnnpeiaaW.PrintMore Go.Proofs.Ytmnidohgnnpeiaa.Num Go.Proofs.Ytmnidohgnnpeiaa.Nam
set_option linter.unusedVariables false
set_option linter.unusedSimpArgs false

theorem enc_0 : enc 0 = [0] := by unfold enc zz; rw [if_neg (by omega), encN_lt (by decide)]; rfl
theorem enc_1 : enc 1 = [2] := by unfold enc zz; rw [if_neg (by omega), encN_lt (by decide)]; rfl
theorem may_one (c : Int) (h : plainC c = true) (h2 : notFirst c = false) : mayL [c] = true := by
  refine may_of ⟨by simp, by simp⟩ h2 ?_
  rw [lo1 h]; exact lettersOnly_nil
theorem ok_st : OkE (⟨#[115]⟩ : ByteArray) (⟨#[116]⟩ : ByteArray) [] [] :=
  ⟨may_one 115 (by decide) (by decide), may_one 116 (by decide) (by decide), by simp, by simp, fun x hx => by simp at hx, fun x hx => by simp at hx, rfl, rfl, fun x hx => by simp at hx⟩
theorem enc_st : encEv (⟨#[115]⟩ : ByteArray) (⟨#[116]⟩ : ByteArray) [] [] = [2, 115, 2, 116, 0, 0] := by
  show (enc 1 ++ [115]) ++ ((enc 1 ++ [116]) ++ ((enc 0 ++ []) ++ (enc 0 ++ []))) = _
  rw [enc_0, enc_1]; rfl
theorem putG_ok {l0 : List Int} {s t : ByteArray} {a : List ByteArray} {f : List S35} (hl : l0.length ≤ 140737488340000) (ha : a.length ≤ 9223372036854775807) (hf : fitE s t a f = true) :
    evcode_PutG.f l0 s t a f = some (if mayE s t a f = 0 then (l0 ++ encEv s t a f, 0) else ([], mayE s t a f)) := if_pos ⟨hl, ha, hf⟩
theorem shown05 : registrarlaw05_shown.f = some true := by
  unfold registrarlaw05_shown.f
  rw [putG_ok (by decide) (by decide) (fitE_iff.2 ⟨by decide, by decide, fun x hx => by simp at hx, fun x hx => by simp at hx, by decide⟩), if_pos ((okE_iff _ _ _ _).2 ok_st), enc_st]
  simp only [Option.bind_some, List.nil_append]
  rw [if_pos (by rw [strOfNums_toList]; rfl)]; rfl
theorem few05 (s t : ByteArray) (a : List ByteArray) (f : List S35) : registrarlaw05_few.f s t a f = some (s, t, a.take 12, f.take 12) := by
  unfold registrarlaw05_few.f
  by_cases h1 : (a.length : Int) > 12
  · rw [if_pos h1, if_pos (by omega)]
    simp only [Option.bind_some]
    by_cases h2 : (f.length : Int) > 12
    · rw [if_pos h2, if_pos (by omega)]
    · rw [if_neg h2, List.take_of_length_le (l := f) (by omega)]
  · rw [if_neg h1, List.take_of_length_le (l := a) (by omega)]
    by_cases h2 : (f.length : Int) > 12
    · rw [if_pos h2, if_pos (by omega)]
    · rw [if_neg h2, List.take_of_length_le (l := f) (by omega)]
/-- Texts that fit in a machine. -/
def Fits (s t : ByteArray) (a : List ByteArray) (f : List S35) : Prop := s.size ≤ 9223372036854775807 ∧ t.size ≤ 9223372036854775807 ∧ (∀ x ∈ a, x.size ≤ 9223372036854775807) ∧ (∀ x ∈ f, x.f0.size ≤ 9223372036854775807)
theorem fit_few {s t : ByteArray} {a : List ByteArray} {f : List S35} (h : Fits s t a f) : fitE s t (a.take 12) (f.take 12) = true := by
  obtain ⟨h1, h2, h3, h4⟩ := h
  refine fitE_iff.2 ⟨h1, h2, fun x hx => h3 x (List.mem_of_mem_take hx), fun x hx => h4 x (List.mem_of_mem_take hx), ?_⟩
  rw [List.length_take]; omega
theorem take12 {α : Type} (l : List α) : (l.take 12).length ≤ 9223372036854775807 := by rw [List.length_take]; omega

theorem OkE.sizes {s t : ByteArray} {a : List ByteArray} {f : List S35} (h : OkE s t a f) : s.size ≤ 9223372036854775807 ∧ t.size ≤ 9223372036854775807 ∧ (∀ x ∈ a, x.size ≤ 9223372036854775807) ∧ (∀ x ∈ f, x.f0.size ≤ 9223372036854775807 ∧ i64 x.f1) ∧ i64 (a.length : Int) ∧ i64 (f.length : Int) := by
  have h1 := may_size h.hs
  have h2 := may_size h.ht
  have h3 := h.ht6
  have h4 := h.hf4
  refine ⟨by omega, by omega, fun x hx => ?_, fun x hx => ⟨?_, ?_⟩, ⟨by omega, by omega⟩, ⟨by omega, by omega⟩⟩
  · have := tag_size (h.htag x hx); omega
  · have := may_size (h.hname x hx); omega
  · have := h.hov x hx; exact ⟨by omega, by omega⟩
theorem encTs_bytes (a : List ByteArray) : isBytes (encTs a) := by
  induction a with
  | nil => intro c hc; simp [encTs] at hc
  | cons x r ih =>
    have e : encTs (x :: r) = encT (bytesOf x) ++ encTs r := by unfold encTs; rw [List.flatMap_cons]
    rw [e]
    exact isBytes_append.2 ⟨isBytes_append.2 ⟨enc_bytes _, bytesOf_isBytes x⟩, ih⟩
theorem encFs_bytes (a : List S35) : isBytes (encFs a) := by
  induction a with
  | nil => intro c hc; simp [encFs] at hc
  | cons x r ih =>
    have e : encFs (x :: r) = (encT (bytesOf x.f0) ++ enc x.f1) ++ encFs r := by unfold encFs; rw [List.flatMap_cons]
    rw [e]
    exact isBytes_append.2 ⟨isBytes_append.2 ⟨isBytes_append.2 ⟨enc_bytes _, bytesOf_isBytes x.f0⟩, enc_bytes _⟩, ih⟩
theorem encEv_bytes (s t : ByteArray) (a : List ByteArray) (f : List S35) : isBytes (encEv s t a f) := by
  unfold encEv
  exact isBytes_append.2 ⟨isBytes_append.2 ⟨enc_bytes _, bytesOf_isBytes s⟩, isBytes_append.2 ⟨isBytes_append.2 ⟨enc_bytes _, bytesOf_isBytes t⟩, isBytes_append.2 ⟨isBytes_append.2 ⟨enc_bytes _, encTs_bytes a⟩, isBytes_append.2 ⟨enc_bytes _, encFs_bytes f⟩⟩⟩⟩
end Go.Proofs.Ytmnidohgnnpeiaa.Prt
namespace Go.Proofs.Ytmnidohgnnpeiaa.Prt
open Go.RowKit Go.Proofs.YtmnidohgnnpeiaaW.PrintWords Go.Proofs.YtmnidohgnnpeiaaW.PrintLast Go.Proofs.YtmnidohgnnpeiaaW.PrintMore Go.Proofs.Ytmnidohgnnpeiaa.Num Go.Proofs.Ytmnidohgnnpeiaa.Nam
set_option linter.unusedVariables false
set_option linter.unusedSimpArgs false

theorem numOf_good {l : List Int} {b : Bool} (hb : isBytes l) (h : badOf l b = false) : b = false ∧ l = enc (numOf l) ++ aft l ∧ i64 (numOf l) := by
  unfold badOf at h
  cases hd : dec l with
  | none => rw [hd] at h; simp at h
  | some q =>
    obtain ⟨x, r⟩ := q
    rw [hd] at h
    obtain ⟨h1, h2⟩ := dec_sound hb hd
    have e1 : numOf l = x := by unfold numOf; rw [hd]
    have e2 : aft l = r := by unfold aft; rw [hd]
    rw [e1, e2]
    exact ⟨by simpa using h, h1, h2⟩
theorem textOf_good {l : List Int} {b : Bool} (hb : isBytes l) (h : badT l b = false) : b = false ∧ l = encT (bytesOf (textOf l)) ++ aftT l := by
  unfold badT at h
  cases hd : decT l with
  | none => rw [hd] at h; simp at h
  | some q =>
    obtain ⟨x, r⟩ := q
    rw [hd] at h
    obtain ⟨h1, h2⟩ := decT_sound hb hd
    have hx : isBytes x := by rw [h1] at hb; unfold encT at hb; exact (isBytes_append.1 (isBytes_append.1 hb).1).2
    have e1 : textOf l = strOfNums x := by unfold textOf; rw [hd]
    have e2 : aftT l = r := by unfold aftT; rw [hd]
    rw [e1, e2, bytesOf_strOfNums hx]
    exact ⟨by simpa using h, h1⟩
theorem encTs_snoc (a : List ByteArray) (x : ByteArray) : encTs (a ++ [x]) = encTs a ++ encT (bytesOf x) := by unfold encTs; simp
theorem encFs_snoc (a : List S35) (x : S35) : encFs (a ++ [x]) = encFs a ++ (encT (bytesOf x.f0) ++ enc x.f1) := by unfold encFs; simp
theorem takeTs_good (l : List Int) (b : Bool) (hb : isBytes l) : ∀ n, (takeTs n l b).2.2 = false → b = false ∧ l = encTs (takeTs n l b).1 ++ (takeTs n l b).2.1
  | 0, h => ⟨h, rfl⟩
  | n + 1, h => by
    simp only [takeTs] at h ⊢
    obtain ⟨h1, h2⟩ := textOf_good (takeTs_left l b hb n).1 h
    obtain ⟨h3, h4⟩ := takeTs_good l b hb n h1
    refine ⟨h3, ?_⟩
    rw [encTs_snoc, List.append_assoc, ← h2]; exact h4
theorem takeFs_good (l : List Int) (b : Bool) (hb : isBytes l) : ∀ n, (takeFs n l b).2.2 = false → b = false ∧ l = encFs (takeFs n l b).1 ++ (takeFs n l b).2.1
  | 0, h => ⟨h, rfl⟩
  | n + 1, h => by
    simp only [takeFs] at h ⊢
    have hy := (takeFs_left l b hb n).1
    obtain ⟨h1, h2, _⟩ := numOf_good (aftT_bytes hy) h
    obtain ⟨h3, h4⟩ := textOf_good hy h1
    obtain ⟨h5, h6⟩ := takeFs_good l b hb n h3
    refine ⟨h5, ?_⟩
    rw [encFs_snoc, List.append_assoc, List.append_assoc, ← h2, ← h4]; exact h6
/-- What is taken without an error stands there as bytes. -/
theorem takeE_good {l : List Int} {b : Bool} (hb : isBytes l) {x : S26} {l' : List Int} {b' : Bool} (h : takeE l b = (x, 0, l', b')) :
    b = false ∧ b' = false ∧ OkE x.f0 x.f1 x.f2 x.f3 ∧ l = encEv x.f0 x.f1 x.f2 x.f3 ++ l' := by
  unfold takeE at h
  simp only at h
  split at h
  · simp at h
  rename_i hn
  split at h
  · simp at h
  rename_i hm
  split at h
  · simp at h
  rename_i hr
  simp only [not_or, Bool.not_eq_true, ne_eq, Decidable.not_not] at hr
  obtain ⟨hr1, hr2⟩ := hr
  have hx := congrArg (fun z => z.1) h
  have hl := congrArg (fun z => z.2.2.1) h
  have hb2 := congrArg (fun z => z.2.2.2) h
  simp only at hx hl hb2
  clear h
  subst hx; subst hl; subst hb2
  refine ⟨?_, hr1, (okE_iff _ _ _ _).1 hr2, ?_⟩
  all_goals
    have y1 := aftT_bytes hb
    have y2 := aftT_bytes y1
    have y3 := aft_bytes y2
    obtain ⟨g1, g2⟩ := takeFs_good _ _ (aft_bytes (takeTs_left _ _ y3 _).1) _ hr1
    obtain ⟨g3, g4, g4'⟩ := numOf_good (takeTs_left _ _ y3 _).1 g1
    obtain ⟨g5, g6⟩ := takeTs_good _ _ y3 _ g3
    obtain ⟨g7, g8, g8'⟩ := numOf_good y2 g5
    obtain ⟨g9, g10⟩ := textOf_good y1 g7
    obtain ⟨g11, g12⟩ := textOf_good hb g9
  · exact g11
  · have e1 : ((takeTs (numOf (aftT (aftT l))).toNat (aft (aftT (aftT l))) (badOf (aftT (aftT l)) (badT (aftT l) (badT l b)))).1.length : Int) = numOf (aftT (aftT l)) := by rw [takeTs_len]; omega
    have e2 : ((takeFs (numOf (takeTs (numOf (aftT (aftT l))).toNat (aft (aftT (aftT l))) (badOf (aftT (aftT l)) (badT (aftT l) (badT l b)))).2.1).toNat (aft (takeTs (numOf (aftT (aftT l))).toNat (aft (aftT (aftT l))) (badOf (aftT (aftT l)) (badT (aftT l) (badT l b)))).2.1) (badOf (takeTs (numOf (aftT (aftT l))).toNat (aft (aftT (aftT l))) (badOf (aftT (aftT l)) (badT (aftT l) (badT l b)))).2.1 (takeTs (numOf (aftT (aftT l))).toNat (aft (aftT (aftT l))) (badOf (aftT (aftT l)) (badT (aftT l) (badT l b)))).2.2)).1.length : Int) = numOf (takeTs (numOf (aftT (aftT l))).toNat (aft (aftT (aftT l))) (badOf (aftT (aftT l)) (badT (aftT l) (badT l b)))).2.1 := by rw [takeFs_len]; omega
    unfold encEv
    simp only
    rw [e1, e2]
    simp only [List.append_assoc]
    rw [← g2, ← g4, ← g6, ← g8, ← g10]
    exact g12
/-- What was laid down is taken. -/
theorem textOf_enc {s : ByteArray} (hs : s.size ≤ 9223372036854775807) (r : List Int) (b : Bool) : textOf (encT (bytesOf s) ++ r) = s ∧ aftT (encT (bytesOf s) ++ r) = r ∧ badT (encT (bytesOf s) ++ r) b = b := by
  unfold textOf aftT badT
  rw [decT_encT (by rw [bytes_length]; exact hs)]
  exact ⟨strOfNums_bytesOf s, rfl, by simp⟩
theorem numOf_enc {x : Int} (h : i64 x) (r : List Int) (b : Bool) : numOf (enc x ++ r) = x ∧ aft (enc x ++ r) = r ∧ badOf (enc x ++ r) b = b := by
  unfold numOf aft badOf
  rw [dec_enc h]
  exact ⟨rfl, rfl, by simp⟩
theorem takeTs_enc (a : List ByteArray) (ha : ∀ x ∈ a, x.size ≤ 9223372036854775807) (r : List Int) (b : Bool) : ∀ n, n ≤ a.length → takeTs n (encTs a ++ r) b = (a.take n, encTs (a.drop n) ++ r, b)
  | 0, _ => by simp [takeTs]
  | n + 1, h => by
    have ih := takeTs_enc a ha r b n (by omega)
    have hd := drop_rd a n (by omega)
    have hx := ha _ (rdOf_mem (l := a) (i := n) (by omega))
    simp only [takeTs, ih]
    have e : encTs (a.drop n) ++ r = encT (bytesOf (rdOf ByteArray.empty a (n : Int))) ++ (encTs (a.drop (n + 1)) ++ r) := by
      rw [hd]; unfold encTs; rw [List.flatMap_cons, List.append_assoc]
    rw [e]
    obtain ⟨h1, h2, h3⟩ := textOf_enc hx (encTs (a.drop (n + 1)) ++ r) b
    rw [h1, h2, h3]
    refine Prod.ext ?_ rfl
    show a.take n ++ [rdOf ByteArray.empty a (n : Int)] = a.take (n + 1)
    rw [List.take_succ_eq_append_getElem (by omega)]
    unfold rdOf
    rw [Int.toNat_natCast, List.getD_eq_getElem?_getD, List.getElem?_eq_getElem (by omega)]; rfl
theorem takeFs_enc (a : List S35) (ha : ∀ x ∈ a, x.f0.size ≤ 9223372036854775807 ∧ i64 x.f1) (r : List Int) (b : Bool) : ∀ n, n ≤ a.length → takeFs n (encFs a ++ r) b = (a.take n, encFs (a.drop n) ++ r, b)
  | 0, _ => by simp [takeFs]
  | n + 1, h => by
    have ih := takeFs_enc a ha r b n (by omega)
    have hd := drop_rdF a n (by omega)
    have hx := ha _ (rdF_mem (l := a) (i := n) (by omega))
    simp only [takeFs, ih]
    have e : encFs (a.drop n) ++ r = encT (bytesOf (rd_T35 a (n : Int)).f0) ++ (enc (rd_T35 a (n : Int)).f1 ++ (encFs (a.drop (n + 1)) ++ r)) := by
      rw [hd]; unfold encFs; rw [List.flatMap_cons, List.append_assoc, List.append_assoc]
    rw [e]
    obtain ⟨h1, h2, h3⟩ := textOf_enc hx.1 (enc (rd_T35 a (n : Int)).f1 ++ (encFs (a.drop (n + 1)) ++ r)) b
    rw [h1, h2, h3]
    obtain ⟨h4, h5, h6⟩ := numOf_enc hx.2 (encFs (a.drop (n + 1)) ++ r) b
    rw [h4, h5, h6]
    refine Prod.ext ?_ rfl
    show a.take n ++ [⟨(rd_T35 a (n : Int)).f0, (rd_T35 a (n : Int)).f1⟩] = a.take (n + 1)
    rw [List.take_succ_eq_append_getElem (by omega)]
    unfold rd_T35
    rw [Int.toNat_natCast, List.getD_eq_getElem?_getD, List.getElem?_eq_getElem (by omega)]; rfl
theorem takeE_enc {s t : ByteArray} {a : List ByteArray} {f : List S35} (h : OkE s t a f) (r : List Int) : takeE (encEv s t a f ++ r) false = (⟨s, t, a, f⟩, 0, r, false) := by
  obtain ⟨z1, z2, z3, z4, z5, z6⟩ := h.sizes
  have h6 := h.ht6
  have h4 := h.hf4
  unfold encEv
  simp only [List.append_assoc]
  obtain ⟨a1, a2, a3⟩ := textOf_enc z1 (encT (bytesOf t) ++ (enc (a.length : Int) ++ (encTs a ++ (enc (f.length : Int) ++ (encFs f ++ r))))) false
  obtain ⟨b1, b2, b3⟩ := textOf_enc z2 (enc (a.length : Int) ++ (encTs a ++ (enc (f.length : Int) ++ (encFs f ++ r)))) false
  obtain ⟨c1, c2, c3⟩ := numOf_enc z5 (encTs a ++ (enc (f.length : Int) ++ (encFs f ++ r))) false
  have d := takeTs_enc a z3 (enc (f.length : Int) ++ (encFs f ++ r)) false a.length (Nat.le_refl _)
  rw [List.take_length, List.drop_length] at d
  have d' : takeTs a.length (encTs a ++ (enc (f.length : Int) ++ (encFs f ++ r))) false = (a, enc (f.length : Int) ++ (encFs f ++ r), false) := by rw [d]; simp [encTs]
  obtain ⟨e1, e2, e3⟩ := numOf_enc z6 (encFs f ++ r) false
  have g := takeFs_enc f z4 r false f.length (Nat.le_refl _)
  rw [List.take_length, List.drop_length] at g
  have g' : takeFs f.length (encFs f ++ r) false = (f, r, false) := by rw [g]; simp [encFs]
  unfold takeE
  simp only [a1, a2, a3, b1, b2, b3, c1, c2, c3]
  rw [if_neg (by omega), Int.toNat_natCast, d']
  simp only [e1, e2, e3]
  rw [if_neg (by omega), Int.toNat_natCast, g']
  simp only
  rw [if_neg (by rw [(okE_iff _ _ _ _).2 h]; simp)]
theorem encEv_pos (s t : ByteArray) (a : List ByteArray) (f : List S35) : 1 ≤ (encEv s t a f).length := by
  unfold encEv encT
  have := enc_pos ((bytesOf s).length : Int)
  simp only [List.length_append]; omega
/-- All events taken. -/
def takeAll : Nat → List Int → List S26 → List S26 × Int
  | 0, _, acc => (acc, 0)
  | k + 1, l, acc => if l.length = 0 then (acc, 0) else if (takeE l false).2.1 = 0 then takeAll k (takeE l false).2.2.1 (acc ++ [(takeE l false).1]) else ([], (takeE l false).2.1)
end Go.Proofs.Ytmnidohgnnpeiaa.Prt
namespace Go.Proofs.Ytmnidohgnnpeiaa.Prt
open Go.RowKit Go.Proofs.YtmnidohgnnpeiaaW.PrintWords Go.Proofs.YtmnidohgnnpeiaaW.PrintLast Go.Proofs.YtmnidohgnnpeiaaW.PrintMore Go.Proofs.Ytmnidohgnnpeiaa.Num Go.Proofs.Ytmnidohgnnpeiaa.Nam
set_option linter.unusedVariables false
set_option linter.unusedSimpArgs false

theorem info_event : (Try.prog.info? 26).map (fun i => (i.zero, i.size, i.bytes)) = some (some (.agg #[.string ⟨#[]⟩, .string ⟨#[]⟩, .slice none 0 0, .slice none 0 0]), 4, 80) := by kernel_rfl
/-- A row of events across a call that turns a reader alone. -/
theorem S_turn {w w1 : World} {base g t : Nat} {v : Value} {xs : List S26} {cells : Array Value} (h : Kd.S k26 26 w base (fun _ => True) v xs) (hb : w.heap[g]? = some (.cells cells t (0, 0))) (ht : ∀ q, q ∈ 26 :: (k26).E → q ≠ t) (hk : KeepBut w w1 g none) : Kd.S k26 26 w1 base (fun k => k < w.heap.size) v xs :=
  Kd.S_mono (Kd.S_keep (Kd.S_bound (Kd.S_types h hb ht)) hk (fun k hk => hk.1.2)) (fun k hk => hk.2.2.1)
theorem takeAll_fuel : ∀ (k : Nat) (l : List Int) (acc : List S26), l.length = 0 → takeAll (k + 1) l acc = (acc, 0) := fun k l acc h => by rw [takeAll, if_pos h]
theorem all_calls (A0 : Option Addr) (c0 : Nat) (l0 : List Int) (w : World) (hr0 : Kd.C (Kd.int .u8) w A0 l0.length l0) (hc0 : l0.length ≤ c0) (hby : isBytes l0) (hlen : l0.length ≤ 1000000000000) (r1 : List S26) (r2 : Int) (h : takeAll (l0.length + 1) l0 [] = (r1, r2)) :
    Calls Try.prog 18 #[.slice A0 l0.length c0] w fun e w' => ∃ v0_ : Value, e = .returned (.tuple #[v0_, .int .i64 r2]) ∧ Kd.S k26 26 w' w.heap.size (fun _ => True) v0_ r1 ∧ Below w.heap.size w w' := by
  have HNR := Aside0.mk (newReader_calls A0 c0 l0 w hr0 hc0)
  have HBY := Aside0.mk hby
  have HH := Aside0.mk h
  clear hr0 hc0 hby h
  have hu26 := Try.underlying26
  go_enter Try.func18, Try.ntmps18
  go_wp2_with fail
  refine HNR.out.mono ?_
  rintro e w1 ⟨g, rfl, hI, hb, hg⟩
  have HI := Aside0.mk hI
  have HB := Aside0.mk hb
  have HG := Aside0.mk hg
  clear hI hb hg HNR
  go_wp2_with fail
  go_loopg [5] (l0.length + 1) (fun k v5 w' => ∃ (l : List Int) (acc : List S26), Aside0 (takeAll k l acc = (r1, r2)) ∧ Aside0 (l.length < k) ∧ Aside0 (acc.length + l.length ≤ l0.length) ∧ Aside0 (isBytes l) ∧ Aside0 (Rd 60 (fun k => k < w.heap.size) w' g l false) ∧ Aside0 (Kd.S k26 26 w' w.heap.size (fun _ => True) v5 acc) ∧ Aside0 (Below w.heap.size w w'))
  case atStart => exact ⟨l0, [], HH, ⟨by omega⟩, ⟨by simp⟩, HBY, HI, ⟨Kd.S_nil _ _ _ _ _⟩, HB⟩
  case round =>
    clear HH HI HB
    obtain ⟨l, acc, HH, HK, HL, HBY, HI, HS, HB⟩ := hrel
    obtain ⟨A, c, e5, _, _⟩ := Kd.S_reads HS.out
    subst e5
    go_wp2_with fail
    refine (left_calls _ wr g l false HI.out).mono ?_
    rintro e w2 ⟨rfl, rfl⟩
    obtain ⟨k, rfl⟩ : ∃ m, gk = m + 1 := ⟨gk - 1, by have := HK.out; omega⟩
    by_cases hl : l.length = 0
    · have hd : decide ((0 : Int) < (l.length : Int)) = false := decide_eq_false (by omega)
      have HE := Aside0.mk ((takeAll_fuel k l acc hl).symm.trans HH.out)
      go_wp2
      go_ret2
      have he := HE.out
      simp only [Prod.mk.injEq] at he
      obtain ⟨rfl, rfl⟩ := he
      exact ⟨_, rfl, HS.out, HB.out⟩
    have hd : decide ((0 : Int) < (l.length : Int)) = true := decide_eq_true (by omega)
    obtain ⟨x, c1, l', b', hx⟩ : ∃ x c1 l' b', takeE l false = (x, c1, l', b') := ⟨_, _, _, _, rfl⟩
    have HX := Aside0.mk hx
    have HT := Aside0.mk (take_walk _ wr g l false HI.out HBY.out (fun k hk => Nat.lt_of_lt_of_le hk HB.out.size) x c1 l' b' hx)
    clear hx
    go_wp2_with fail
    refine HT.out.mono ?_
    rintro e w2 ⟨v2, v3, rfl, h2, h3, hI, hby, hb, hk⟩
    have HS2 : Aside0 (Kd.S k26 26 w2 w.heap.size (fun k => k < wr.heap.size) (.slice A acc.length c) acc) := ⟨by
      obtain ⟨A', c', hblk, _⟩ := HI.out
      exact S_turn HS.out hblk (by decide) hk⟩
    have H2 := Aside0.mk h2
    have H3 := Aside0.mk h3
    have HI2 := Aside0.mk hI
    have HBY2 := Aside0.mk hby
    have HB2 := Aside0.mk (HB.out.trans (hb.mono HG.out))
    have HSZ := Aside0.mk hk.1
    have HWR := Aside0.mk HB.out.size
    have HBYL := Aside0.mk HBY.out
    clear h2 h3 hI hby hb hk HI HS HB HBY HT
    obtain ⟨A2, c2, e2⟩ := Kd.R_slice H2.out
    subst e2
    obtain ⟨A3, c3, e3⟩ := Kd.R_slice H3.out
    subst e3
    go_upto_region 5 with (first | ((with_reducible refine gate_dst (N := 6) rfl ?_); refine box_event ?hg (N := 6) ?hd (cs := #[.string (⟨#[]⟩ : ByteArray), .string (⟨#[]⟩ : ByteArray), .slice none 0 0, .slice none 0 0]) (t := 26) ?hr ?_; (case hd => rfl); (case hg => rfl); (case hr => first | (go_simp; done) | (go_simp; rfl)); intro B hgB w3 hbox hb; have HBX := Aside0.mk hbox; have HBN := Aside0.mk hgB; have n1_ := Aside0.mk (Kd.S_below HS2.out hb); have n2_ := Aside0.mk (Kd.R_below H2.out hb); have n3_ := Aside0.mk (Kd.R_below H3.out hb); have n4_ := Aside0.mk (HI2.out.below hb); have n5_ := Aside0.mk (below_step HB2.out hb); have HGB := Aside0.mk (show g ≠ B by have := HI2.out.lt; omega); clear HS2 H2 H3 HI2 HB2 hbox hgB hb; have HS2 := n1_; have H2 := n2_; have H3 := n3_; have HI2 := n4_; have HB2 := n5_; clear n1_ n2_ n3_ n4_ n5_; have hq0 := blk_cell HBX.out 0; have hq1 := blk_cell HBX.out 1; have hq2 := blk_cell HBX.out 2; have hq3 := blk_cell HBX.out 3; have hf0 := blk_frozen HBX.out 0; have hf1 := blk_frozen HBX.out 1; have hf2 := blk_frozen HBX.out 2; have hf3 := blk_frozen HBX.out 3))
    have HBG : Aside0 (wr.heap.size ≤ B ∧ w.heap.size ≤ B) := ⟨by have := HBN.out; have := HSZ.out; have := HWR.out; omega⟩
    have n1_ := Aside0.mk (Kd.S_far (p := ⟨B, 3, none⟩) (Kd.S_far (p := ⟨B, 2, none⟩) (Kd.S_far (p := ⟨B, 1, none⟩) (Kd.S_far (p := ⟨B, 0, none⟩) HS2.out (fun k hk => by have := HBG.out.1; show k ≠ B; omega) (.string x.f0)) (fun k hk => by have := HBG.out.1; show k ≠ B; omega) (.string x.f1)) (fun k hk => by have := HBG.out.1; show k ≠ B; omega) (.slice A2 x.f2.length c2)) (fun k hk => by have := HBG.out.1; show k ≠ B; omega) (.slice A3 x.f3.length c3))
    have n2_ := Aside0.mk (R_set4 H2.out HBX.out (by decide) (.string x.f0) (.string x.f1) (.slice A2 x.f2.length c2) (.slice A3 x.f3.length c3))
    have n3_ := Aside0.mk (R_set4 H3.out HBX.out (by decide) (.string x.f0) (.string x.f1) (.slice A2 x.f2.length c2) (.slice A3 x.f3.length c3))
    have n4_ := Aside0.mk ((((HI2.out.kept ((KeepBut.refl _ B none).set_ 0 (.string x.f0)) HGB.out (by have := HBG.out.2; omega)).kept ((KeepBut.refl _ B none).set_ 1 (.string x.f1)) HGB.out (by have := HBG.out.2; omega)).kept ((KeepBut.refl _ B none).set_ 2 (.slice A2 x.f2.length c2)) HGB.out (by have := HBG.out.2; omega)).kept ((KeepBut.refl _ B none).set_ 3 (.slice A3 x.f3.length c3)) HGB.out (by have := HBG.out.2; omega))
    have n5_ := Aside0.mk ((((HB2.out.setCell (p := ⟨B, 0, none⟩) HBG.out.2 (.string x.f0)).setCell (p := ⟨B, 1, none⟩) HBG.out.2 (.string x.f1)).setCell (p := ⟨B, 2, none⟩) HBG.out.2 (.slice A2 x.f2.length c2)).setCell (p := ⟨B, 3, none⟩) HBG.out.2 (.slice A3 x.f3.length c3))
    have n6_ := Aside0.mk (blk_put (cs' := #[.string x.f0, .string x.f1, .slice A2 x.f2.length c2, .slice A3 x.f3.length c3]) (blk_put (cs' := #[.string x.f0, .string x.f1, .slice A2 x.f2.length c2, .slice none 0 0]) (blk_put (cs' := #[.string x.f0, .string x.f1, .slice none 0 0, .slice none 0 0]) (blk_put (cs' := #[.string x.f0, .string ⟨#[]⟩, .slice none 0 0, .slice none 0 0]) HBX.out 0 (.string x.f0) rfl) 1 (.string x.f1) rfl) 2 (.slice A2 x.f2.length c2) rfl) 3 (.slice A3 x.f3.length c3) rfl)
    clear HS2 H2 H3 HI2 HB2 HBX hq0 hq1 hq2 hq3 hf0 hf1 hf2 hf3
    generalize (((w3.setCell ⟨B, 0, none⟩ (.string x.f0)).setCell ⟨B, 1, none⟩ (.string x.f1)).setCell ⟨B, 2, none⟩ (.slice A2 x.f2.length c2)).setCell ⟨B, 3, none⟩ (.slice A3 x.f3.length c3) = w4 at n1_ n2_ n3_ n4_ n5_ n6_ ⊢
    by_cases hc1 : c1 = 0
    · have hbn : (c1 != 0) = false := bne_eq_false_iff_eq.mpr hc1
      have HC1 := Aside0.mk hc1
      have hq0 := blk_cell n6_.out 0
      have hq1 := blk_cell n6_.out 1
      have hq2 := blk_cell n6_.out 2
      have hq3 := blk_cell n6_.out 3
      clear hc1
      have HGD := Aside0.mk (takeE_good HBYL.out (by rw [HX.out, HC1.out] : takeE l false = (x, 0, l', b')))
      have HLEN : Aside0 (acc.length ≤ 1000000000000) := ⟨by have := HL.out; omega⟩
      have hlen2 := HLEN.out
      have HAP : Aside0 (∀ k, wr.heap.size ≤ k → True ∧ some k ≠ (Value.slice A acc.length c).ownBlock) := ⟨fun k hk => ⟨trivial, fun e_ => by have h_ := (Kd.S_R n1_.out).1 k e_.symm; omega⟩⟩
      have HAQ : Aside0 (Kd.S k26 26 w4 w.heap.size (fun k => True ∧ ¬ wr.heap.size ≤ k) (.slice A acc.length c) acc) := ⟨Kd.S_mono n1_.out (fun k hk => ⟨trivial, by omega⟩)⟩
      have HMK : Aside0 ((k26).M w4 w.heap.size (fun k => wr.heap.size ≤ k) x [.string x.f0, .string x.f1, .slice A2 x.f2.length c2, .slice A3 x.f3.length c3]) := ⟨k26_mkM _ _ _ x (Kd.R_lower (Kd.R_mono (Kd.R_bound n2_.out) (fun k hk => hk.2.1)) HWR.out) (Kd.R_lower (Kd.R_mono (Kd.R_bound n3_.out) (fun k hk => hk.2.1)) HWR.out)⟩
      go_wp2_with (first | ((with_reducible refine gate_builtin (b := .append) (xs := #[.tmp 21, .tmp 23]) rfl ?_); at_builtin; refine Kd.S_append k26 (w0 := w) w.heap.size rfl (.tmp 21) (.tmp 23) 46 26 (.agg #[.string ⟨#[]⟩, .string ⟨#[]⟩, .slice none 0 0, .slice none 0 0]) 80 rfl Try.underlying46 info_event rfl (by decide) (by omega) (.slice A acc.length c) acc x [.string x.f0, .string x.f1, .slice A2 x.f2.length c2, .slice A3 x.f3.length c3] (fun _ => True) (fun k => wr.heap.size ≤ k) rfl rfl HMK.out HAP.out (fun _ _ => trivial) HAQ.out n5_.out n5_.out.size (by omega) ?_; intro v w5 ho hb hg hat; have HO := Aside0.mk ho; have HBl := Aside0.mk hb; have HGR := Aside0.mk hg; clear ho hb hg hat))
      have hl2 : l'.length < l.length := by
        have h := congrArg List.length HGD.out.2.2.2
        have := encEv_pos x.f0 x.f1 x.f2 x.f3
        rw [List.length_append] at h; omega
      have HL2 := Aside0.mk hl2
      clear hl2
      go_roundg k
      case measure => omega
      case rel =>
        refine ⟨l', acc ++ [x], ⟨?_⟩, ⟨by have := HL2.out; have := HK.out; omega⟩, ⟨by have := HL2.out; have := HL.out; rw [List.length_append, List.length_singleton]; omega⟩, HBY2, ⟨?_⟩, HO, HBl⟩
        · have h := HH.out
          rw [takeAll, if_neg hl, HX.out] at h
          simp only at h
          rw [if_pos HC1.out] at h
          exact h
        · have h := n4_.out.grown HGR.out (by obtain ⟨A', c', hblk, _⟩ := n4_.out; exact Kd.S_ne n1_.out hblk (by decide)) (fun k hk => ne_base (Kd.S_base n1_.out) hk)
          rw [HGD.out.2.1] at h
          exact h
    · have hbn : (c1 != 0) = true := bne_iff_ne.mpr hc1
      have HE : Aside0 (r1 = [] ∧ r2 = c1) := ⟨by
        have h := HH.out
        rw [takeAll, if_neg hl, HX.out] at h
        simp only at h
        rw [if_neg hc1] at h
        simp only [Prod.mk.injEq] at h
        exact ⟨h.1.symm, h.2.symm⟩⟩
      clear hc1
      go_wp2
      go_ret2
      obtain ⟨rfl, rfl⟩ := HE.out
      exact ⟨_, rfl, Kd.S_nil _ _ _ _ _, n5_.out⟩
end Go.Proofs.Ytmnidohgnnpeiaa.Prt
namespace Go.Proofs.Ytmnidohgnnpeiaa.Prt
open Go.RowKit Go.Proofs.YtmnidohgnnpeiaaW.PrintWords Go.Proofs.YtmnidohgnnpeiaaW.PrintLast Go.Proofs.YtmnidohgnnpeiaaW.PrintMore Go.Proofs.Ytmnidohgnnpeiaa.Num Go.Proofs.Ytmnidohgnnpeiaa.Nam
set_option linter.unusedVariables false
set_option linter.unusedSimpArgs false

def byteB (l : List Int) : Bool := l.all fun c => decide (0 ≤ c ∧ c < 256)
theorem byteB_iff {l : List Int} : byteB l = true ↔ isBytes l := by
  unfold byteB isBytes
  simp only [List.all_eq_true, decide_eq_true_eq]
def evcode_All.f (l0 : List Int) : Option ((List (S26)) × Int) := if byteB l0 = true ∧ l0.length ≤ 1000000000000 then some (takeAll (l0.length + 1) l0 []) else none
theorem evcode_All.calls (A0 : Option Addr) (c0 : Nat) (l0 : List Int) (r1 : List (S26)) (r2 : Int) (w : World) (hr0 : Kd.C (Kd.int .u8) w A0 l0.length l0) (hc0 : l0.length ≤ c0) (h : evcode_All.f l0 = some (r1, r2)) :
    Calls Try.prog 18 #[.slice A0 l0.length c0] w fun e w' => ∃ v0_ : Value, e = .returned (.tuple #[v0_, .int .i64 r2]) ∧ Kd.S k26 26 w' w.heap.size (fun _ => True) v0_ r1 ∧ Below w.heap.size w w' := by
  unfold evcode_All.f at h
  by_cases hc : byteB l0 = true ∧ l0.length ≤ 1000000000000
  · rw [if_pos hc] at h
    exact all_calls A0 c0 l0 w hr0 hc0 (byteB_iff.1 hc.1) hc.2 r1 r2 (Option.some.inj h)
  · rw [if_neg hc] at h; cases h
end Go.Proofs.Ytmnidohgnnpeiaa.Prt
namespace Go.Proofs.Ytmnidohgnnpeiaa.Prt
open Go.RowKit Go.Proofs.YtmnidohgnnpeiaaW.PrintWords Go.Proofs.YtmnidohgnnpeiaaW.PrintLast Go.Proofs.YtmnidohgnnpeiaaW.PrintMore Go.Proofs.Ytmnidohgnnpeiaa.Num Go.Proofs.Ytmnidohgnnpeiaa.Nam
set_option linter.unusedVariables false
set_option linter.unusedSimpArgs false

def OkX (x : S26) : Prop := OkE x.f0 x.f1 x.f2 x.f3
def encX (x : S26) : List Int := encEv x.f0 x.f1 x.f2 x.f3
def encEs (l : List S26) : List Int := l.flatMap encX
theorem encEs_cons (x : S26) (l : List S26) : encEs (x :: l) = encX x ++ encEs l := by unfold encEs; rw [List.flatMap_cons]
theorem encEs_append (a b : List S26) : encEs (a ++ b) = encEs a ++ encEs b := by unfold encEs; rw [List.flatMap_append]
theorem encX_pos (x : S26) : 1 ≤ (encX x).length := encEv_pos _ _ _ _
theorem encEs_bytes (l : List S26) : isBytes (encEs l) := by
  induction l with
  | nil => intro c hc; simp [encEs] at hc
  | cons x r ih => rw [encEs_cons]; exact isBytes_append.2 ⟨encEv_bytes _ _ _ _, ih⟩
theorem encTs_size (a : List ByteArray) (h : ∀ x ∈ a, x.size ≤ 49) : (encTs a).length ≤ 59 * a.length := by
  induction a with
  | nil => simp [encTs]
  | cons x r ih =>
    have e : encTs (x :: r) = encT (bytesOf x) ++ encTs r := by unfold encTs; rw [List.flatMap_cons]
    have h1 := h x (by simp)
    have h2 := encT_len x (by omega)
    have h3 := ih (fun z hz => h z (by simp [hz]))
    rw [e, List.length_append, List.length_cons]; omega
theorem encFs_size (a : List S35) (h : ∀ x ∈ a, x.f0.size ≤ 24 ∧ i64 x.f1) : (encFs a).length ≤ 44 * a.length := by
  induction a with
  | nil => simp [encFs]
  | cons x r ih =>
    have e : encFs (x :: r) = (encT (bytesOf x.f0) ++ enc x.f1) ++ encFs r := by unfold encFs; rw [List.flatMap_cons]
    have h1 := (h x (by simp)).1
    have h2 := encT_len x.f0 (by omega)
    have h4 := enc_len (h x (by simp)).2
    have h3 := ih (fun z hz => h z (by simp [hz]))
    rw [e, List.length_append, List.length_append, List.length_cons]; omega
theorem encX_size {x : S26} (h : OkX x) : (encX x).length ≤ 700 := by
  have z1 := may_size h.hs
  have z2 := may_size h.ht
  have h6 := h.ht6
  have h4 := h.hf4
  have q1 := encT_len x.f0 (by omega)
  have q2 := encT_len x.f1 (by omega)
  have q3 := enc_len (x := (x.f2.length : Int)) ⟨by omega, by omega⟩
  have q4 := enc_len (x := (x.f3.length : Int)) ⟨by omega, by omega⟩
  have q5 := encTs_size x.f2 (fun y hy => tag_size (h.htag y hy))
  have q6 := encFs_size x.f3 (fun y hy => ⟨may_size (h.hname y hy), by have := h.hov y hy; exact ⟨by omega, by omega⟩⟩)
  unfold encX encEv
  simp only [List.length_append]
  omega
theorem encEs_size (l : List S26) (h : ∀ x ∈ l, OkX x) : (encEs l).length ≤ 700 * l.length := by
  induction l with
  | nil => simp [encEs]
  | cons x r ih =>
    have h1 := encX_size (h x (by simp))
    have h3 := ih (fun z hz => h z (by simp [hz]))
    rw [encEs_cons, List.length_append, List.length_cons]; omega
theorem encEs_long (l : List S26) : l.length ≤ (encEs l).length := by
  induction l with
  | nil => simp [encEs]
  | cons x r ih =>
    have := encX_pos x
    rw [encEs_cons, List.length_append, List.length_cons]; omega
theorem takeE_ok {x : S26} (h : OkX x) (r : List Int) : takeE (encX x ++ r) false = (x, 0, r, false) := takeE_enc h r
/-- What was laid down is taken, one and all. -/
theorem takeAll_enc (g : List S26) : ∀ (k : Nat) (acc : List S26), (∀ x ∈ g, OkX x) → g.length < k → takeAll k (encEs g) acc = (acc ++ g, 0) := by
  induction g with
  | nil =>
    intro k acc h hk
    obtain ⟨k, rfl⟩ : ∃ m, k = m + 1 := ⟨k - 1, by omega⟩
    simp [takeAll, encEs]
  | cons x r ih =>
    intro k acc h hk
    rw [List.length_cons] at hk
    obtain ⟨k, rfl⟩ : ∃ m, k = m + 1 := ⟨k - 1, by omega⟩
    have := encX_pos x
    rw [takeAll, encEs_cons, if_neg (by rw [List.length_append]; omega), takeE_ok (h x (by simp))]
    simp only [if_true]
    rw [ih k _ (fun z hz => h z (by simp [hz])) (by omega), List.append_assoc]; rfl
theorem all_ok {l : List Int} (hb : isBytes l) (hl : l.length ≤ 1000000000000) : evcode_All.f l = some (takeAll (l.length + 1) l []) := if_pos ⟨byteB_iff.2 hb, hl⟩
end Go.Proofs.Ytmnidohgnnpeiaa.Prt
namespace Go.Proofs.Ytmnidohgnnpeiaa.Prt
open Go.RowKit Go.Proofs.YtmnidohgnnpeiaaW.PrintWords Go.Proofs.YtmnidohgnnpeiaaW.PrintLast Go.Proofs.YtmnidohgnnpeiaaW.PrintMore
attribute [local go_sem] max2_int min2_int max_two min_two max_three min_three max_four min_four   -- for this text's walks alone
set_option linter.unusedVariables false
set_option linter.unusedSimpArgs false

end Go.Proofs.Ytmnidohgnnpeiaa.Prt
namespace Go.Proofs.Ytmnidohgnnpeiaa.Prt
open Go.RowKit Go.Proofs.YtmnidohgnnpeiaaW.PrintWords Go.Proofs.YtmnidohgnnpeiaaW.PrintLast Go.Proofs.YtmnidohgnnpeiaaW.PrintMore Go.Proofs.Ytmnidohgnnpeiaa.Num Go.Proofs.Ytmnidohgnnpeiaa.Nam
set_option linter.unusedVariables false
set_option linter.unusedSimpArgs false

theorem encEs_snoc (g : List S26) (x : S26) : encEs (g ++ [x]) = encEs g ++ encX x := by rw [encEs_append]; congr 1; unfold encEs; simp
end Go.Proofs.Ytmnidohgnnpeiaa.Prt
namespace Go.Proofs.Ytmnidohgnnpeiaa.Prt
open Go.RowKit Go.Proofs.YtmnidohgnnpeiaaW.PrintWords Go.Proofs.YtmnidohgnnpeiaaW.PrintLast Go.Proofs.YtmnidohgnnpeiaaW.PrintMore Go.Proofs.Ytmnidohgnnpeiaa.Num Go.Proofs.Ytmnidohgnnpeiaa.Nam
set_option linter.unusedVariables false
theorem Ak {p : Prop} (h : p) : Aside0 p := Aside0.mk h
end Go.Proofs.Ytmnidohgnnpeiaa.Prt

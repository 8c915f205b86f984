/- Functions of the program, told as plain functions, with their walks: written by a program of this claim's out of the translation. What is wrong with an event, and whether two events are the same, as the reference says: in closed form. The contracts of numbers and texts as bytes, in the form that the printed functions ask. -/
import Derived.Test.YtafeakcajhhkoaaYBatchTakes1
import Derived.Test.YtafeakcajhhkoaaYBatchTakes2
import Derived.Test.YtafeakcajhhkoaaYBatchTakes3
namespace Go.Proofs.Ytafeakcajhhkoaa.Prt
open Go.RowKit Go.Proofs.YtafeakcajhhkoaaW.PrintWords Go.Proofs.YtafeakcajhhkoaaW.PrintLast Go.Proofs.YtafeakcajhhkoaaW.PrintMore
attribute [local go_sem] max2_int min2_int max_two min_two max_three min_three max_four min_four   -- for this text's walks alone
set_option linter.unusedVariables false
set_option linter.unusedSimpArgs false

mutual
def registrarref04_May.j0 : Nat → Bool → ByteArray → ByteArray → List ByteArray → List (S50) → Option (Int)
  | 0, _, _, _, _, _ => none
  | k + 1, x23, x207000, x207001, x207002, x207003 => if x23 = true then (some 5) else (if (x207002.length : Int) > 6 then (registrarref04_May.j1 k true x207000 x207001 x207002 x207003) else (registrarref04_May.j1 k (decide ((x207003.length : Int) > 4)) x207000 x207001 x207002 x207003))
def registrarref04_May.j1 : Nat → Bool → ByteArray → ByteArray → List ByteArray → List (S50) → Option (Int)
  | 0, _, _, _, _, _ => none
  | k + 1, x33, x207000, x207001, x207002, x207003 => if x33 = true then (some 3) else (registrarref04_May.l0 k (([] : List ByteArray)) true 0 x207000 x207001 x207002 x207003)
def registrarref04_May.l0 : Nat → List ByteArray → Bool → Int → ByteArray → ByteArray → List ByteArray → List (S50) → Option (Int)
  | 0, _, _, _, _, _, _, _ => none
  | k + 1, x5, x6, x7, x207000, x207001, x207002, x207003 => if x7 < (x207003.length : Int) then (if 0 ≤ x7 then ((registrarref03_MayG.f ((rd_T50 x207003 x7).f0)).bind fun t213 => (if t213 = true then (if x5.length < 8796093022208 then ((some (x5 ++ [(rd_T50 x207003 x7).f0] : List ByteArray)).bind fun y215 => (if x6 = true then (if ((rd_T50 x207003 x7).f1) ≥ (-1099511627776) then (registrarref04_May.l0 k y215 (decide (((rd_T50 x207003 x7).f1) ≤ 1099511627776)) (wrap64 (x7 + 1)) x207000 x207001 x207002 x207003) else (registrarref04_May.l0 k y215 false (wrap64 (x7 + 1)) x207000 x207001 x207002 x207003)) else (registrarref04_May.l0 k y215 false (wrap64 (x7 + 1)) x207000 x207001 x207002 x207003))) else (none)) else (some 5))) else (none)) else ((registrarref04_tagsG.f x207002).bind fun t220 => (if t220 = true then ((registrarref04_RiseG.f x207002).bind fun t221 => ((registrarref04_RiseG.f x5).bind fun t222 => (if x6 = true then (if t221 = true then (if t222 = true then (some 0) else (some 1)) else (some 1)) else (some 1)))) else (some 5)))
end
def registrarref04_May.f (k : Nat) (a0_0 : ByteArray) (a0_1 : ByteArray) (l0_2 : List ByteArray) (l0_3 : List (S50)) : Option (Int) := (registrarref03_MayG.f a0_0).bind fun t207 => ((registrarref03_MayG.f a0_1).bind fun t208 => (if t207 = true then (registrarref04_May.j0 k (!t208) a0_0 a0_1 l0_2 l0_3) else (registrarref04_May.j0 k true a0_0 a0_1 l0_2 l0_3)))
set_option maxHeartbeats 8000000 in
set_option maxRecDepth 100000 in
theorem registrarref04_May.calls (k : Nat) (a0_0 : ByteArray) (a0_1 : ByteArray) (A0_2 : Option Addr) (c0_2 : Nat) (l0_2 : List ByteArray) (A0_3 : Option Addr) (c0_3 : Nat) (l0_3 : List (S50)) (r : Int) (w : World) (hr0_2 : Kd.C Kd.string w A0_2 l0_2.length l0_2) (hc0_2 : l0_2.length ≤ c0_2) (hr0_3 : Kd.C k50 w A0_3 l0_3.length l0_3) (hc0_3 : l0_3.length ≤ c0_3) (h : registrarref04_May.f k a0_0 a0_1 l0_2 l0_3 = some r) :
    Calls Try.prog 23 #[.agg #[.string a0_0, .string a0_1, .slice A0_2 l0_2.length c0_2, .slice A0_3 l0_3.length c0_3]] w fun e w' => e = .returned (.int .i64 r) ∧ Below w.heap.size w w' := by
  have hu40 := Try.underlying40
  have HR0_2 := Aside0.mk hr0_2
  have HC0_2 := Aside0.mk hc0_2
  clear hr0_2 hc0_2
  have HR0_3 := Aside0.mk hr0_3
  have HC0_3 := Aside0.mk hc0_3
  clear hr0_3 hc0_3
  have HB := Aside0.mk (Below.refl w.heap.size w)
  have H : ((registrarref03_MayG.f a0_0).bind fun t207 => ((registrarref03_MayG.f a0_1).bind fun t208 => (if t207 = true then (registrarref04_May.j0 k (!t208) a0_0 a0_1 l0_2 l0_3) else (registrarref04_May.j0 k true a0_0 a0_1 l0_2 l0_3)))) = some r := h
  clear h
  replace H := Option.bind_eq_some_iff.mp H
  obtain ⟨t207, A20, H⟩ := H
  replace H : ((registrarref03_MayG.f a0_1).bind fun t208 => (if t207 = true then (registrarref04_May.j0 k (!t208) a0_0 a0_1 l0_2 l0_3) else (registrarref04_May.j0 k true a0_0 a0_1 l0_2 l0_3))) = some r := H
  have A2 := Aside0.mk A20
  clear A20
  replace H := Option.bind_eq_some_iff.mp H
  obtain ⟨t208, A30, H⟩ := H
  replace H : (if t207 = true then (registrarref04_May.j0 k (!t208) a0_0 a0_1 l0_2 l0_3) else (registrarref04_May.j0 k true a0_0 a0_1 l0_2 l0_3)) = some r := H
  have A3 := Aside0.mk A30
  clear A30
  have HC4 := Aside0.mk H
  clear H
  go_enter Try.func23, Try.ntmps23
  go_upto_region 3 with (first | ((with_reducible refine gate_dst (N := 1) rfl ?_); (try (refine gate_guard (by rfl) ?_; dsimp only)); refine box_event ?hg (N := 1) ?hd (cs := #[.string a0_0, .string a0_1, .slice A0_2 l0_2.length c0_2, .slice A0_3 l0_3.length c0_3]) (t := 40) ?hr ?_; (case hd => rfl); (case hg => rfl); (case hr => first | (go_simp; done) | (go_simp; rfl)); intro gb206 hg w5 hbox hb; have n0_ := Aside0.mk (below_step (by repeat (first | (with_reducible first | exact HB.out | apply below_alloc | apply pw_below_drewN | apply below_drew1) | exact HB.out)) hb); have n1_ := Aside0.mk (hbox); have n2_ := Aside0.mk ((by rw [hg]; exact (below_size (by repeat (first | (with_reducible first | exact HB.out | apply below_alloc | apply pw_below_drewN | apply below_drew1) | exact HB.out))) : w.heap.size ≤ gb206)); have n3_ := Aside0.mk ((by rw [hg]; exact (below_size (by repeat (first | (with_reducible first | exact HB.out | apply below_alloc | apply pw_below_drewN | apply below_drew1) | exact HB.out))) : w.heap.size ≤ gb206)); clear HB; have HB := n0_; have BK206 := n1_; have GW206 := n2_; have GE206 := n3_; clear n0_ n1_ n2_ n3_; clear hb hbox hg; have hcz6_0 : w5.cell? ⟨gb206, 0, none⟩ = some (.string a0_0) := (blk_cell BK206.out 0).trans rfl; have hcz6_1 : w5.cell? ⟨gb206, 1, none⟩ = some (.string a0_1) := (blk_cell BK206.out 1).trans rfl; have hcz6_2 : w5.cell? ⟨gb206, 2, none⟩ = some (.slice A0_2 l0_2.length c0_2) := (blk_cell BK206.out 2).trans rfl; have hcz6_3 : w5.cell? ⟨gb206, 3, none⟩ = some (.slice A0_3 l0_3.length c0_3) := (blk_cell BK206.out 3).trans rfl; have hfz6_0 := blk_frozen BK206.out 0; have hfz6_1 := blk_frozen BK206.out 1; have hfz6_2 := blk_frozen BK206.out 2; have hfz6_3 := blk_frozen BK206.out 3) | ((with_reducible refine gate_callee (f := 43) rfl ?_); refine goesL_ (some 14) rfl rfl Try.func43 (by kernel_rfl) rfl #[.string a0_0] rfl (by (try simp only [List.map_toArray, List.map_cons, List.map_nil]); first | done | rfl | (simp only [List.length_drop, List.length_take]; rfl)) ?_; (with_reducible refine (registrarref03_MayG.calls a0_0 t207 _ A2.out).mono ?_); rintro e w7 ⟨rfl, hb⟩; refine ⟨_, rfl, ?_⟩; have n0_ := Aside0.mk (blk_below (g := gb206) (o := .cells #[.string a0_0, .string a0_1, .slice A0_2 l0_2.length c0_2, .slice A0_3 l0_3.length c0_3] 40 (0, 0)) (by (with_reducible repeat (first | refine blk_drewN ?_ _ | refine blk_drew ?_ | refine blk_alloc ?_ _)); exact BK206.out) hb); have n1_ := Aside0.mk (below_step (by repeat (first | (with_reducible first | exact HB.out | apply below_alloc | apply pw_below_drewN | apply below_drew1 | refine below_set ?_ GE206.out) | exact HB.out)) hb); clear BK206; clear HB; have BK206 := n0_; have HB := n1_; clear n0_ n1_; (try clear hb); (try clear hb2); (try clear hk); (try clear hi); have hcz8_0 : w7.cell? ⟨gb206, 0, none⟩ = some (.string a0_0) := (blk_cell BK206.out 0).trans rfl; have hcz8_1 : w7.cell? ⟨gb206, 1, none⟩ = some (.string a0_1) := (blk_cell BK206.out 1).trans rfl; have hcz8_2 : w7.cell? ⟨gb206, 2, none⟩ = some (.slice A0_2 l0_2.length c0_2) := (blk_cell BK206.out 2).trans rfl; have hcz8_3 : w7.cell? ⟨gb206, 3, none⟩ = some (.slice A0_3 l0_3.length c0_3) := (blk_cell BK206.out 3).trans rfl; have hfz8_0 := blk_frozen BK206.out 0; have hfz8_1 := blk_frozen BK206.out 1; have hfz8_2 := blk_frozen BK206.out 2; have hfz8_3 := blk_frozen BK206.out 3) | ((with_reducible refine gate_callee (f := 43) rfl ?_); refine goesL_ (some 17) rfl rfl Try.func43 (by kernel_rfl) rfl #[.string a0_1] rfl (by (try simp only [List.map_toArray, List.map_cons, List.map_nil]); first | done | rfl | (simp only [List.length_drop, List.length_take]; rfl)) ?_; (with_reducible refine (registrarref03_MayG.calls a0_1 t208 _ A3.out).mono ?_); rintro e w9 ⟨rfl, hb⟩; refine ⟨_, rfl, ?_⟩; have n0_ := Aside0.mk (blk_below (g := gb206) (o := .cells #[.string a0_0, .string a0_1, .slice A0_2 l0_2.length c0_2, .slice A0_3 l0_3.length c0_3] 40 (0, 0)) (by (with_reducible repeat (first | refine blk_drewN ?_ _ | refine blk_drew ?_ | refine blk_alloc ?_ _)); exact BK206.out) hb); have n1_ := Aside0.mk (below_step (by repeat (first | (with_reducible first | exact HB.out | apply below_alloc | apply pw_below_drewN | apply below_drew1 | refine below_set ?_ GE206.out) | exact HB.out)) hb); clear BK206; clear HB; have BK206 := n0_; have HB := n1_; clear n0_ n1_; (try clear hb); (try clear hb2); (try clear hk); (try clear hi)))
  (try simp only [Act.put, List.setIfInBounds_toArray, List.set_cons_zero, List.set_cons_succ])
  go_cut [23] (fun v23 wc => ∃ (kq : Nat) (x23_3 : Bool), v23 = .bool x23_3 ∧ Aside0 (registrarref04_May.j0 kq x23_3 a0_0 a0_1 l0_2 l0_3 = some r) ∧ Aside0 (kq ≤ k) ∧ Aside0 (wc.heap[gb206]? = some (.cells #[.string a0_0, .string a0_1, (.slice A0_2 l0_2.length c0_2), (.slice A0_3 l0_3.length c0_3)] 40 (0, 0))) ∧ Aside0 (Below w.heap.size w wc))
  case first =>
    have H := HC4.out
    clear HC4
    by_cases c10 : t207 = true
    · subst c10
      have H1 : (registrarref04_May.j0 k (!t208) a0_0 a0_1 l0_2 l0_3) = some r := by rw [if_pos rfl] at H; exact H
      clear H
      have H := H1
      clear H1
      have H' := Aside0.mk H
      clear H
      go_wp2
      go_meet
      case rel => exact ⟨_, (!t208), (by first | rfl | (simp; done) | (simp [*]; done)), H', ⟨by first | omega | exact Nat.le_refl _⟩, ⟨by (with_reducible repeat (first | refine blk_drewN ?_ _ | refine blk_drew ?_ | refine blk_alloc ?_ _)); exact BK206.out⟩, ⟨by repeat (first | (with_reducible first | exact HB.out | apply below_alloc | apply pw_below_drewN | apply below_drew1 | refine below_set ?_ GE206.out) | exact HB.out)⟩⟩
    · replace c10 := Bool.eq_false_iff.mpr c10
      subst c10
      have H1 : (registrarref04_May.j0 k true a0_0 a0_1 l0_2 l0_3) = some r := by rw [if_neg (show ¬ (false = true) by decide)] at H; exact H
      clear H
      have H := H1
      clear H1
      have H' := Aside0.mk H
      clear H
      go_wp2
      go_meet
      case rel => exact ⟨_, (true), (by first | rfl | (simp; done) | (simp [*]; done)), H', ⟨by first | omega | exact Nat.le_refl _⟩, ⟨by (with_reducible repeat (first | refine blk_drewN ?_ _ | refine blk_drew ?_ | refine blk_alloc ?_ _)); exact BK206.out⟩, ⟨by repeat (first | (with_reducible first | exact HB.out | apply below_alloc | apply pw_below_drewN | apply below_drew1 | refine below_set ?_ GE206.out) | exact HB.out)⟩⟩
  case rest =>
    clear HC4
    try clear c1
    try clear c2
    try clear p2
    try clear c4
    try clear c10
    try clear hcz6_0
    try clear hcz6_1
    try clear hcz6_2
    try clear hcz6_3
    try clear hcz8_0
    try clear hcz8_1
    try clear hcz8_2
    try clear hcz8_3
    try clear hfz6_0
    try clear hfz6_1
    try clear hfz6_2
    try clear hfz6_3
    try clear hfz8_0
    try clear hfz8_1
    try clear hfz8_2
    try clear hfz8_3
    obtain ⟨kq, x23_3, rfl, HA, HJ3, BK206, HB⟩ := hcut
    cases kq with
    | zero => exact absurd HA.out (by simp [registrarref04_May.j0])
    | succ kj3 =>
      have H := HA.out
      clear HA
      simp only [registrarref04_May.j0] at H
      by_cases c11 : x23_3 = true
      · subst c11
        have H1 : (some 5) = some r := by rw [if_pos rfl] at H; exact H
        clear H
        have H := H1
        clear H1
        obtain rfl := Option.some.inj H
        go_wp2
        go_ret
        exact ⟨by first | rfl | (simp [errW_none, errW_some] <;> rfl) | (simp [*, errW_none, errW_some] <;> rfl), by repeat (first | (with_reducible first | exact HB.out | apply below_alloc | apply pw_below_drewN | apply below_drew1 | refine below_set ?_ GE206.out) | exact HB.out)⟩
      · replace c11 := Bool.eq_false_iff.mpr c11
        subst c11
        have H1 : (if (l0_2.length : Int) > 6 then (registrarref04_May.j1 kj3 true a0_0 a0_1 l0_2 l0_3) else (registrarref04_May.j1 kj3 (decide ((l0_3.length : Int) > 4)) a0_0 a0_1 l0_2 l0_3)) = some r := by rw [if_neg (show ¬ (false = true) by decide)] at H; exact H
        clear H
        have H := H1
        clear H1
        have HC12 := Aside0.mk H
        clear H
        go_upto_region 5 with (fail)
        go_cut [33] (fun v33 wc => ∃ (kq : Nat) (x33_11 : Bool), v33 = .bool x33_11 ∧ Aside0 (registrarref04_May.j1 kq x33_11 a0_0 a0_1 l0_2 l0_3 = some r) ∧ Aside0 (kq ≤ kj3) ∧ Aside0 (wc.heap[gb206]? = some (.cells #[.string a0_0, .string a0_1, (.slice A0_2 l0_2.length c0_2), (.slice A0_3 l0_3.length c0_3)] 40 (0, 0))) ∧ Aside0 (Below w.heap.size w wc))
        case first =>
          have H := HC12.out
          clear HC12
          by_cases c13 : (l0_2.length : Int) > 6
          · rw [if_pos c13] at H
            have c13b0 : decide (6 < (l0_2.length : Int)) = true := decide_eq_true c13
            have c13b1 : decide (6 < l0_2.length) = true := decide_eq_true (by omega)
            clear c13
            (first | rw [c13b0] | (simp only [i64_w, i32_w]; rw [c13b0]) | skip)
            have H' := Aside0.mk H
            clear H
            have hcz14_0 : wc.cell? ⟨gb206, 0, none⟩ = some (.string a0_0) := (blk_cell BK206.out 0).trans rfl
            have hcz14_1 : wc.cell? ⟨gb206, 1, none⟩ = some (.string a0_1) := (blk_cell BK206.out 1).trans rfl
            have hcz14_2 : wc.cell? ⟨gb206, 2, none⟩ = some (.slice A0_2 l0_2.length c0_2) := (blk_cell BK206.out 2).trans rfl
            have hcz14_3 : wc.cell? ⟨gb206, 3, none⟩ = some (.slice A0_3 l0_3.length c0_3) := (blk_cell BK206.out 3).trans rfl
            have hfz14_0 := blk_frozen BK206.out 0
            have hfz14_1 := blk_frozen BK206.out 1
            have hfz14_2 := blk_frozen BK206.out 2
            have hfz14_3 := blk_frozen BK206.out 3
            go_wp2
            go_meet
            case rel => exact ⟨_, (true), (by first | rfl | (simp; done) | (simp [*]; done)), H', ⟨by have := HJ3.out; first | omega | exact Nat.le_refl _⟩, ⟨by (with_reducible repeat (first | refine blk_drewN ?_ _ | refine blk_drew ?_ | refine blk_alloc ?_ _)); exact BK206.out⟩, ⟨by repeat (first | (with_reducible first | exact HB.out | apply below_alloc | apply pw_below_drewN | apply below_drew1 | refine below_set ?_ GE206.out) | exact HB.out)⟩⟩
          · rw [if_neg c13] at H
            have c13b0 : decide (6 < (l0_2.length : Int)) = false := decide_eq_false c13
            have c13b1 : decide (6 < l0_2.length) = false := decide_eq_false (by omega)
            clear c13
            (first | rw [c13b0] | (simp only [i64_w, i32_w]; rw [c13b0]) | skip)
            have H' := Aside0.mk H
            clear H
            have hcz15_0 : wc.cell? ⟨gb206, 0, none⟩ = some (.string a0_0) := (blk_cell BK206.out 0).trans rfl
            have hcz15_1 : wc.cell? ⟨gb206, 1, none⟩ = some (.string a0_1) := (blk_cell BK206.out 1).trans rfl
            have hcz15_2 : wc.cell? ⟨gb206, 2, none⟩ = some (.slice A0_2 l0_2.length c0_2) := (blk_cell BK206.out 2).trans rfl
            have hcz15_3 : wc.cell? ⟨gb206, 3, none⟩ = some (.slice A0_3 l0_3.length c0_3) := (blk_cell BK206.out 3).trans rfl
            have hfz15_0 := blk_frozen BK206.out 0
            have hfz15_1 := blk_frozen BK206.out 1
            have hfz15_2 := blk_frozen BK206.out 2
            have hfz15_3 := blk_frozen BK206.out 3
            go_wp2
            go_meet
            case rel => exact ⟨_, (decide ((l0_3.length : Int) > 4)), (by first | rfl | (simp; done) | (simp [*]; done)), H', ⟨by have := HJ3.out; first | omega | exact Nat.le_refl _⟩, ⟨by (with_reducible repeat (first | refine blk_drewN ?_ _ | refine blk_drew ?_ | refine blk_alloc ?_ _)); exact BK206.out⟩, ⟨by repeat (first | (with_reducible first | exact HB.out | apply below_alloc | apply pw_below_drewN | apply below_drew1 | refine below_set ?_ GE206.out) | exact HB.out)⟩⟩
        case rest =>
          clear HC12
          try clear c1
          try clear c2
          try clear p2
          try clear c4
          try clear c10
          try clear c11
          try clear c13
          try clear c13b0
          try clear c13b1
          try clear hcz14_0
          try clear hcz14_1
          try clear hcz14_2
          try clear hcz14_3
          try clear hcz15_0
          try clear hcz15_1
          try clear hcz15_2
          try clear hcz15_3
          try clear hcz6_0
          try clear hcz6_1
          try clear hcz6_2
          try clear hcz6_3
          try clear hcz8_0
          try clear hcz8_1
          try clear hcz8_2
          try clear hcz8_3
          try clear hfz14_0
          try clear hfz14_1
          try clear hfz14_2
          try clear hfz14_3
          try clear hfz15_0
          try clear hfz15_1
          try clear hfz15_2
          try clear hfz15_3
          try clear hfz6_0
          try clear hfz6_1
          try clear hfz6_2
          try clear hfz6_3
          try clear hfz8_0
          try clear hfz8_1
          try clear hfz8_2
          try clear hfz8_3
          try clear p2
          obtain ⟨kq, x33_11, rfl, HA, HJ11, BK206, HB⟩ := hcut
          cases kq with
          | zero => exact absurd HA.out (by simp [registrarref04_May.j1])
          | succ kj11 =>
            have H := HA.out
            clear HA
            simp only [registrarref04_May.j1] at H
            by_cases c16 : x33_11 = true
            · subst c16
              have H1 : (some 3) = some r := by rw [if_pos rfl] at H; exact H
              clear H
              have H := H1
              clear H1
              obtain rfl := Option.some.inj H
              go_wp2
              go_ret
              exact ⟨by first | rfl | (simp [errW_none, errW_some] <;> rfl) | (simp [*, errW_none, errW_some] <;> rfl), by repeat (first | (with_reducible first | exact HB.out | apply below_alloc | apply pw_below_drewN | apply below_drew1 | refine below_set ?_ GE206.out) | exact HB.out)⟩
            · replace c16 := Bool.eq_false_iff.mpr c16
              subst c16
              have H1 : (registrarref04_May.l0 kj11 (([] : List ByteArray)) true 0 a0_0 a0_1 l0_2 l0_3) = some r := by rw [if_neg (show ¬ (false = true) by decide)] at H; exact H
              clear H
              have H := H1
              clear H1
              obtain ⟨y209, hy209⟩ : ∃ y_ : List ByteArray, y_ = (([] : List ByteArray)) := ⟨_, rfl⟩
              replace H : (registrarref04_May.l0 kj11 y209 true 0 a0_0 a0_1 l0_2 l0_3) = some r := by first | (rw [hy209]; with_reducible exact H) | (have H2_ := (Option.bind_some _ _).symm.trans H; rw [hy209]; with_reducible exact H2_) | (have H2_ := (Option.bind_some _ _).symm.trans H; with_reducible exact H2_) | with_reducible exact H | (rw [hy209]; exact H) | exact H
              have Ny209 := Aside0.mk hy209
              clear hy209
              have H' := Aside0.mk H
              clear H
              go_wp2_with (first | ((with_reducible refine gate_dst (N := 34) rfl ?_); (try (refine gate_guard (by rfl) ?_; dsimp only)); refine Kd.R_lit Kd.string _ 9 ?hg (N := 34) ?hd (xs := ([] : List ByteArray)) (inner := []) (ok := fun _ => True) (okp := fun _ => True) ?hr ?hp (fun _ hk => hk) trivial (Below.refl _ _) (Nat.le_refl _) (by simp) ?_; (case hd => rfl); (case hg => rfl); (case hr => first | (go_simp; done) | (go_simp; rfl)); (case hp => exact (Reps.none _ _)); intro v210 w17 ho18 hb hg_ hnew_; clear hg_ hnew_; (first | rw [← Ny209.out] at ho18 | (simp only [Int.reduceToNat] at ho18; rw [← Ny209.out] at ho18)); have n0_ := Aside0.mk (Kd.R_lower ho18 (below_size (by repeat (first | (with_reducible first | exact HB.out | apply below_alloc | apply pw_below_drewN | apply below_drew1 | refine below_set ?_ GE206.out) | exact HB.out)))); have n1_ := Aside0.mk (blk_below (g := gb206) (o := .cells #[.string a0_0, .string a0_1, .slice A0_2 l0_2.length c0_2, .slice A0_3 l0_3.length c0_3] 40 (0, 0)) (by (with_reducible repeat (first | refine blk_drewN ?_ _ | refine blk_drew ?_ | refine blk_alloc ?_ _)); exact BK206.out) hb); have n2_ := Aside0.mk (below_step (by repeat (first | (with_reducible first | exact HB.out | apply below_alloc | apply pw_below_drewN | apply below_drew1 | refine below_set ?_ GE206.out) | exact HB.out)) hb); clear BK206; clear HB; have HO211 := n0_; have BK206 := n1_; have HB := n2_; clear n0_ n1_ n2_; clear hb ho18))
              go_loopg [5, 6, 7] kj11 (fun kq v5 v6 v7 w' => ∃ (x5_3 : List ByteArray) (x6_3 : Bool) (x7_3 : Int), v6 = .bool x6_3 ∧ v7 = .int .i64 x7_3 ∧ Aside0 (registrarref04_May.l0 kq x5_3 x6_3 x7_3 a0_0 a0_1 l0_2 l0_3 = some r) ∧ Aside0 (kq ≤ kj11) ∧ Aside0 (Kd.R Kd.string 9 w' w.heap.size (fun _ => True) v5 x5_3) ∧ Aside0 (w'.heap[gb206]? = some (.cells #[.string a0_0, .string a0_1, (.slice A0_2 l0_2.length c0_2), (.slice A0_3 l0_3.length c0_3)] 40 (0, 0))) ∧ Aside0 (Below w.heap.size w w'))
              case atStart => exact ⟨(y209), (true), (0), (by first | rfl | (simp; done) | (simp [*]; done)), (by first | rfl | (simp; done) | (simp [*]; done)), H', ⟨Nat.le_refl _⟩, ⟨by (with_reducible repeat (first | apply Kd.R_alloc | apply Kd.R_drewN | apply Kd.R_drew)); exact HO211.out⟩, ⟨by (with_reducible repeat (first | refine blk_drewN ?_ _ | refine blk_drew ?_ | refine blk_alloc ?_ _)); exact BK206.out⟩, ⟨by repeat (first | (with_reducible first | exact HB.out | apply below_alloc | apply pw_below_drewN | apply below_drew1 | refine below_set ?_ GE206.out) | exact HB.out)⟩⟩
              case round =>
                clear H'
                try clear c1
                try clear c2
                try clear p2
                try clear c4
                try clear c10
                try clear c11
                try clear c13
                try clear c13b0
                try clear c13b1
                try clear c16
                try clear hcz14_0
                try clear hcz14_1
                try clear hcz14_2
                try clear hcz14_3
                try clear hcz15_0
                try clear hcz15_1
                try clear hcz15_2
                try clear hcz15_3
                try clear hcz6_0
                try clear hcz6_1
                try clear hcz6_2
                try clear hcz6_3
                try clear hcz8_0
                try clear hcz8_1
                try clear hcz8_2
                try clear hcz8_3
                try clear hfz14_0
                try clear hfz14_1
                try clear hfz14_2
                try clear hfz14_3
                try clear hfz15_0
                try clear hfz15_1
                try clear hfz15_2
                try clear hfz15_3
                try clear hfz6_0
                try clear hfz6_1
                try clear hfz6_2
                try clear hfz6_3
                try clear hfz8_0
                try clear hfz8_1
                try clear hfz8_2
                try clear hfz8_3
                try clear p2
                obtain ⟨x5_3, x6_3, x7_3, rfl, rfl, HA, HK3, HO_5, BK206, HB⟩ := hrel
                cases gk with
                | zero => exact absurd HA.out (by simp [registrarref04_May.l0])
                | succ k3 =>
                  have H := HA.out
                  clear HA
                  simp only [registrarref04_May.l0] at H
                  by_cases c19 : x7_3 < (l0_3.length : Int)
                  · rw [if_pos c19] at H
                    have c19b0 : decide (x7_3 < (l0_3.length : Int)) = true := decide_eq_true c19
                    clear c19
                    by_cases c20 : 0 ≤ x7_3
                    · rw [if_pos c20] at H
                      have c20b0 : decide (0 ≤ x7_3) = true := decide_eq_true c20
                      clear c20
                      replace H := Option.bind_eq_some_iff.mp H
                      obtain ⟨t213, A210, H⟩ := H
                      replace H : (if t213 = true then (if x5_3.length < 8796093022208 then ((some (x5_3 ++ [(rd_T50 l0_3 x7_3).f0] : List ByteArray)).bind fun y215 => (if x6_3 = true then (if ((rd_T50 l0_3 x7_3).f1) ≥ (-1099511627776) then (registrarref04_May.l0 k3 y215 (decide (((rd_T50 l0_3 x7_3).f1) ≤ 1099511627776)) (wrap64 (x7_3 + 1)) a0_0 a0_1 l0_2 l0_3) else (registrarref04_May.l0 k3 y215 false (wrap64 (x7_3 + 1)) a0_0 a0_1 l0_2 l0_3)) else (registrarref04_May.l0 k3 y215 false (wrap64 (x7_3 + 1)) a0_0 a0_1 l0_2 l0_3))) else (none)) else (some 5)) = some r := H
                      have A21 := Aside0.mk A210
                      clear A210
                      by_cases c22 : t213 = true
                      · subst c22
                        have H1 : (if x5_3.length < 8796093022208 then ((some (x5_3 ++ [(rd_T50 l0_3 x7_3).f0] : List ByteArray)).bind fun y215 => (if x6_3 = true then (if ((rd_T50 l0_3 x7_3).f1) ≥ (-1099511627776) then (registrarref04_May.l0 k3 y215 (decide (((rd_T50 l0_3 x7_3).f1) ≤ 1099511627776)) (wrap64 (x7_3 + 1)) a0_0 a0_1 l0_2 l0_3) else (registrarref04_May.l0 k3 y215 false (wrap64 (x7_3 + 1)) a0_0 a0_1 l0_2 l0_3)) else (registrarref04_May.l0 k3 y215 false (wrap64 (x7_3 + 1)) a0_0 a0_1 l0_2 l0_3))) else (none)) = some r := by rw [if_pos rfl] at H; exact H
                        clear H
                        have H := H1
                        clear H1
                        by_cases c23 : x5_3.length < 8796093022208
                        · rw [if_pos c23] at H
                          have LMc23 := Aside0.mk c23
                          clear c23
                          obtain ⟨y215, hy215⟩ : ∃ y_ : List ByteArray, y_ = (x5_3 ++ [(rd_T50 l0_3 x7_3).f0]) := ⟨_, rfl⟩
                          replace H : (if x6_3 = true then (if ((rd_T50 l0_3 x7_3).f1) ≥ (-1099511627776) then (registrarref04_May.l0 k3 y215 (decide (((rd_T50 l0_3 x7_3).f1) ≤ 1099511627776)) (wrap64 (x7_3 + 1)) a0_0 a0_1 l0_2 l0_3) else (registrarref04_May.l0 k3 y215 false (wrap64 (x7_3 + 1)) a0_0 a0_1 l0_2 l0_3)) else (registrarref04_May.l0 k3 y215 false (wrap64 (x7_3 + 1)) a0_0 a0_1 l0_2 l0_3)) = some r := by first | (rw [hy215]; with_reducible exact H) | (have H2_ := (Option.bind_some _ _).symm.trans H; rw [hy215]; with_reducible exact H2_) | (have H2_ := (Option.bind_some _ _).symm.trans H; with_reducible exact H2_) | with_reducible exact H | (rw [hy215]; exact H) | exact H
                          have Ny215 := Aside0.mk hy215
                          clear hy215
                          by_cases c24 : x6_3 = true
                          · subst c24
                            have H1 : (if ((rd_T50 l0_3 x7_3).f1) ≥ (-1099511627776) then (registrarref04_May.l0 k3 y215 (decide (((rd_T50 l0_3 x7_3).f1) ≤ 1099511627776)) (wrap64 (x7_3 + 1)) a0_0 a0_1 l0_2 l0_3) else (registrarref04_May.l0 k3 y215 false (wrap64 (x7_3 + 1)) a0_0 a0_1 l0_2 l0_3)) = some r := by rw [if_pos rfl] at H; exact H
                            clear H
                            have H := H1
                            clear H1
                            by_cases c25 : ((rd_T50 l0_3 x7_3).f1) ≥ (-1099511627776)
                            · rw [if_pos c25] at H
                              have c25b0 : decide ((-1099511627776) ≤ ((rd_T50 l0_3 x7_3).f1)) = true := decide_eq_true c25
                              clear c25
                              have H' := Aside0.mk H
                              clear H
                              have hcz26_0 : wr.cell? ⟨gb206, 0, none⟩ = some (.string a0_0) := (blk_cell BK206.out 0).trans rfl
                              have hcz26_1 : wr.cell? ⟨gb206, 1, none⟩ = some (.string a0_1) := (blk_cell BK206.out 1).trans rfl
                              have hcz26_2 : wr.cell? ⟨gb206, 2, none⟩ = some (.slice A0_2 l0_2.length c0_2) := (blk_cell BK206.out 2).trans rfl
                              have hcz26_3 : wr.cell? ⟨gb206, 3, none⟩ = some (.slice A0_3 l0_3.length c0_3) := (blk_cell BK206.out 3).trans rfl
                              have hfz26_0 := blk_frozen BK206.out 0
                              have hfz26_1 := blk_frozen BK206.out 1
                              have hfz26_2 := blk_frozen BK206.out 2
                              have hfz26_3 := blk_frozen BK206.out 3
                              have p212 : 0 ≤ (x7_3 : Int) := of_decide_eq_true (by first | (with_reducible assumption) | assumption)
                              have q212 : x7_3 < (l0_3.length : Int) := of_decide_eq_true (by first | (with_reducible assumption) | assumption)
                              obtain ⟨ad212, e212, hx212_0, hx212_1⟩ := at_T50 HR0_3.out x7_3 p212 q212
                              cases e212
                              replace hx212_0 := (HB.out.cell (World.block_lt_of_cell? w _ hx212_0)).trans hx212_0
                              replace hx212_1 := (HB.out.cell (World.block_lt_of_cell? w _ hx212_1)).trans hx212_1
                              replace p212 := eq_true p212
                              replace q212 := eq_true q212
                              go_wp2_with (first | ((with_reducible refine gate_callee (f := 43) rfl ?_); refine goesL_ (some 48) rfl rfl Try.func43 (by kernel_rfl) rfl #[.string ((rd_T50 l0_3 x7_3).f0)] rfl (by (try simp only [List.map_toArray, List.map_cons, List.map_nil]); first | done | rfl | (simp only [List.length_drop, List.length_take]; rfl)) ?_; (with_reducible refine (registrarref03_MayG.calls ((rd_T50 l0_3 x7_3).f0) true _ A21.out).mono ?_); rintro e w27 ⟨rfl, hb⟩; refine ⟨_, rfl, ?_⟩; have n0_ := Aside0.mk (Kd.R_below (by (with_reducible repeat (first | apply Kd.R_alloc | apply Kd.R_drewN | apply Kd.R_drew)); exact HO_5.out) hb); have n1_ := Aside0.mk (blk_below (g := gb206) (o := .cells #[.string a0_0, .string a0_1, .slice A0_2 l0_2.length c0_2, .slice (some ad212) l0_3.length c0_3] 40 (0, 0)) (by (with_reducible repeat (first | refine blk_drewN ?_ _ | refine blk_drew ?_ | refine blk_alloc ?_ _)); exact BK206.out) hb); have n2_ := Aside0.mk (below_step (by repeat (first | (with_reducible first | exact HB.out | apply below_alloc | apply pw_below_drewN | apply below_drew1 | refine below_set ?_ GE206.out) | exact HB.out)) hb); clear HO_5; clear BK206; clear HB; have HO_5 := n0_; have BK206 := n1_; have HB := n2_; clear n0_ n1_ n2_; (try clear hb); (try clear hb2); (try clear hk); (try clear hi); have hcz28_0 : w27.cell? ⟨gb206, 0, none⟩ = some (.string a0_0) := (blk_cell BK206.out 0).trans rfl; have hcz28_1 : w27.cell? ⟨gb206, 1, none⟩ = some (.string a0_1) := (blk_cell BK206.out 1).trans rfl; have hcz28_2 : w27.cell? ⟨gb206, 2, none⟩ = some (.slice A0_2 l0_2.length c0_2) := (blk_cell BK206.out 2).trans rfl; have hcz28_3 : w27.cell? ⟨gb206, 3, none⟩ = some (.slice (some ad212) l0_3.length c0_3) := (blk_cell BK206.out 3).trans rfl; have hfz28_0 := blk_frozen BK206.out 0; have hfz28_1 := blk_frozen BK206.out 1; have hfz28_2 := blk_frozen BK206.out 2; have hfz28_3 := blk_frozen BK206.out 3; have p214 : 0 ≤ (x7_3 : Int) := of_decide_eq_true (by first | (with_reducible assumption) | assumption); have q214 : x7_3 < (l0_3.length : Int) := of_decide_eq_true (by first | (with_reducible assumption) | assumption); obtain ⟨ad214, e214, hx214_0, hx214_1⟩ := at_T50 HR0_3.out x7_3 p214 q214; obtain rfl : ad212 = ad214 := (by injection e214); replace hx214_0 := (HB.out.cell (World.block_lt_of_cell? w _ hx214_0)).trans hx214_0; replace hx214_1 := (HB.out.cell (World.block_lt_of_cell? w _ hx214_1)).trans hx214_1; replace p214 := eq_true p214; replace q214 := eq_true q214) | ((with_reducible refine gate_builtin (b := .append) (xs := #[.tmp 51, .tmp 58]) rfl ?_); (try (refine gate_guard (by rfl) ?_; dsimp only)); at_builtin; refine Kd.R_append Kd.string (w0 := w) w.heap.size rfl (.tmp 51) (.tmp 58) 37 9 (.string ⟨#[]⟩) 16 rfl Try.underlying37 info9 rfl (by decide) (by omega) u5 x5_3 ((rd_T50 l0_3 x7_3).f0) [.string ((rd_T50 l0_3 x7_3).f0)] (fun _ => True) (fun _ => False) rfl rfl ?aP (fun _ hk => hk.elim) ?aF ?aO ?aB ?aS ?aL ?_; (case aP => exact rfl); (case aB => exact (by repeat (first | (with_reducible first | exact HB.out | apply below_alloc | apply pw_below_drewN | apply below_drew1 | refine below_set ?_ GE206.out) | exact HB.out))); (case aF => exact (fun _ _ => trivial)); (case aO => exact (by (with_reducible repeat (first | apply Kd.R_alloc | apply Kd.R_drewN | apply Kd.R_drew)); exact HO_5.out)); (case aS => exact (below_size (by repeat (first | (with_reducible first | exact HB.out | apply below_alloc | apply pw_below_drewN | apply below_drew1 | refine below_set ?_ GE206.out) | exact HB.out)))); (case aL => have := LMc23.out; omega); intro v216 w29 ho hb hg hat; rw [← Ny215.out] at ho; have n0_ := Aside0.mk (blk_grown (g := gb206) (o := .cells #[.string a0_0, .string a0_1, .slice A0_2 l0_2.length c0_2, .slice (some ad212) l0_3.length c0_3] 40 (0, 0)) (by (with_reducible repeat (first | refine blk_drewN ?_ _ | refine blk_drew ?_ | refine blk_alloc ?_ _)); exact BK206.out) hg (Kd.R_ne HO_5.out BK206.out (by decide))); have n1_ := Aside0.mk (hb); have n2_ := Aside0.mk (ho); clear BK206; clear HB; clear HO_5; have BK206 := n0_; have HB := n1_; have HO217 := n2_; clear n0_ n1_ n2_; clear ho hb hg hat; have hcz30_0 : w29.cell? ⟨gb206, 0, none⟩ = some (.string a0_0) := (blk_cell BK206.out 0).trans rfl; have hcz30_1 : w29.cell? ⟨gb206, 1, none⟩ = some (.string a0_1) := (blk_cell BK206.out 1).trans rfl; have hcz30_2 : w29.cell? ⟨gb206, 2, none⟩ = some (.slice A0_2 l0_2.length c0_2) := (blk_cell BK206.out 2).trans rfl; have hcz30_3 : w29.cell? ⟨gb206, 3, none⟩ = some (.slice (some ad212) l0_3.length c0_3) := (blk_cell BK206.out 3).trans rfl; have hfz30_0 := blk_frozen BK206.out 0; have hfz30_1 := blk_frozen BK206.out 1; have hfz30_2 := blk_frozen BK206.out 2; have hfz30_3 := blk_frozen BK206.out 3; have p218 : 0 ≤ (x7_3 : Int) := of_decide_eq_true (by first | (with_reducible assumption) | assumption); have q218 : x7_3 < (l0_3.length : Int) := of_decide_eq_true (by first | (with_reducible assumption) | assumption); obtain ⟨ad218, e218, hx218_0, hx218_1⟩ := at_T50 HR0_3.out x7_3 p218 q218; obtain rfl : ad212 = ad218 := (by injection e218); replace hx218_0 := (HB.out.cell (World.block_lt_of_cell? w _ hx218_0)).trans hx218_0; replace hx218_1 := (HB.out.cell (World.block_lt_of_cell? w _ hx218_1)).trans hx218_1; replace p218 := eq_true p218; replace q218 := eq_true q218; have p219 : 0 ≤ (x7_3 : Int) := of_decide_eq_true (by first | (with_reducible assumption) | assumption); have q219 : x7_3 < (l0_3.length : Int) := of_decide_eq_true (by first | (with_reducible assumption) | assumption); obtain ⟨ad219, e219, hx219_0, hx219_1⟩ := at_T50 HR0_3.out x7_3 p219 q219; obtain rfl : ad212 = ad219 := (by injection e219); replace hx219_0 := (HB.out.cell (World.block_lt_of_cell? w _ hx219_0)).trans hx219_0; replace hx219_1 := (HB.out.cell (World.block_lt_of_cell? w _ hx219_1)).trans hx219_1; replace p219 := eq_true p219; replace q219 := eq_true q219))
                              go_roundg k3
                              case measure => have := HJ3.out; have := HJ11.out; have := HK3.out; omega
                              case rel => exact ⟨(y215), (decide (((rd_T50 l0_3 x7_3).f1) ≤ 1099511627776)), (wrap64 (x7_3 + 1)), (by first | rfl | (simp; done) | (simp [*]; done)), (by first | rfl | (simp; done) | (simp [*]; done)), H', ⟨by have := HJ3.out; have := HJ11.out; have := HK3.out; omega⟩, ⟨by (with_reducible repeat (first | apply Kd.R_alloc | apply Kd.R_drewN | apply Kd.R_drew)); exact HO217.out⟩, ⟨by (with_reducible repeat (first | refine blk_drewN ?_ _ | refine blk_drew ?_ | refine blk_alloc ?_ _)); exact BK206.out⟩, ⟨by repeat (first | (with_reducible first | exact HB.out | apply below_alloc | apply pw_below_drewN | apply below_drew1 | refine below_set ?_ GE206.out) | exact HB.out)⟩⟩
                            · rw [if_neg c25] at H
                              have c25b0 : decide ((-1099511627776) ≤ ((rd_T50 l0_3 x7_3).f1)) = false := decide_eq_false c25
                              clear c25
                              have H' := Aside0.mk H
                              clear H
                              have hcz31_0 : wr.cell? ⟨gb206, 0, none⟩ = some (.string a0_0) := (blk_cell BK206.out 0).trans rfl
                              have hcz31_1 : wr.cell? ⟨gb206, 1, none⟩ = some (.string a0_1) := (blk_cell BK206.out 1).trans rfl
                              have hcz31_2 : wr.cell? ⟨gb206, 2, none⟩ = some (.slice A0_2 l0_2.length c0_2) := (blk_cell BK206.out 2).trans rfl
                              have hcz31_3 : wr.cell? ⟨gb206, 3, none⟩ = some (.slice A0_3 l0_3.length c0_3) := (blk_cell BK206.out 3).trans rfl
                              have hfz31_0 := blk_frozen BK206.out 0
                              have hfz31_1 := blk_frozen BK206.out 1
                              have hfz31_2 := blk_frozen BK206.out 2
                              have hfz31_3 := blk_frozen BK206.out 3
                              have p212 : 0 ≤ (x7_3 : Int) := of_decide_eq_true (by first | (with_reducible assumption) | assumption)
                              have q212 : x7_3 < (l0_3.length : Int) := of_decide_eq_true (by first | (with_reducible assumption) | assumption)
                              obtain ⟨ad212, e212, hx212_0, hx212_1⟩ := at_T50 HR0_3.out x7_3 p212 q212
                              cases e212
                              replace hx212_0 := (HB.out.cell (World.block_lt_of_cell? w _ hx212_0)).trans hx212_0
                              replace hx212_1 := (HB.out.cell (World.block_lt_of_cell? w _ hx212_1)).trans hx212_1
                              replace p212 := eq_true p212
                              replace q212 := eq_true q212
                              go_wp2_with (first | ((with_reducible refine gate_callee (f := 43) rfl ?_); refine goesL_ (some 48) rfl rfl Try.func43 (by kernel_rfl) rfl #[.string ((rd_T50 l0_3 x7_3).f0)] rfl (by (try simp only [List.map_toArray, List.map_cons, List.map_nil]); first | done | rfl | (simp only [List.length_drop, List.length_take]; rfl)) ?_; (with_reducible refine (registrarref03_MayG.calls ((rd_T50 l0_3 x7_3).f0) true _ A21.out).mono ?_); rintro e w32 ⟨rfl, hb⟩; refine ⟨_, rfl, ?_⟩; have n0_ := Aside0.mk (Kd.R_below (by (with_reducible repeat (first | apply Kd.R_alloc | apply Kd.R_drewN | apply Kd.R_drew)); exact HO_5.out) hb); have n1_ := Aside0.mk (blk_below (g := gb206) (o := .cells #[.string a0_0, .string a0_1, .slice A0_2 l0_2.length c0_2, .slice (some ad212) l0_3.length c0_3] 40 (0, 0)) (by (with_reducible repeat (first | refine blk_drewN ?_ _ | refine blk_drew ?_ | refine blk_alloc ?_ _)); exact BK206.out) hb); have n2_ := Aside0.mk (below_step (by repeat (first | (with_reducible first | exact HB.out | apply below_alloc | apply pw_below_drewN | apply below_drew1 | refine below_set ?_ GE206.out) | exact HB.out)) hb); clear HO_5; clear BK206; clear HB; have HO_5 := n0_; have BK206 := n1_; have HB := n2_; clear n0_ n1_ n2_; (try clear hb); (try clear hb2); (try clear hk); (try clear hi); have hcz33_0 : w32.cell? ⟨gb206, 0, none⟩ = some (.string a0_0) := (blk_cell BK206.out 0).trans rfl; have hcz33_1 : w32.cell? ⟨gb206, 1, none⟩ = some (.string a0_1) := (blk_cell BK206.out 1).trans rfl; have hcz33_2 : w32.cell? ⟨gb206, 2, none⟩ = some (.slice A0_2 l0_2.length c0_2) := (blk_cell BK206.out 2).trans rfl; have hcz33_3 : w32.cell? ⟨gb206, 3, none⟩ = some (.slice (some ad212) l0_3.length c0_3) := (blk_cell BK206.out 3).trans rfl; have hfz33_0 := blk_frozen BK206.out 0; have hfz33_1 := blk_frozen BK206.out 1; have hfz33_2 := blk_frozen BK206.out 2; have hfz33_3 := blk_frozen BK206.out 3; have p214 : 0 ≤ (x7_3 : Int) := of_decide_eq_true (by first | (with_reducible assumption) | assumption); have q214 : x7_3 < (l0_3.length : Int) := of_decide_eq_true (by first | (with_reducible assumption) | assumption); obtain ⟨ad214, e214, hx214_0, hx214_1⟩ := at_T50 HR0_3.out x7_3 p214 q214; obtain rfl : ad212 = ad214 := (by injection e214); replace hx214_0 := (HB.out.cell (World.block_lt_of_cell? w _ hx214_0)).trans hx214_0; replace hx214_1 := (HB.out.cell (World.block_lt_of_cell? w _ hx214_1)).trans hx214_1; replace p214 := eq_true p214; replace q214 := eq_true q214) | ((with_reducible refine gate_builtin (b := .append) (xs := #[.tmp 51, .tmp 58]) rfl ?_); (try (refine gate_guard (by rfl) ?_; dsimp only)); at_builtin; refine Kd.R_append Kd.string (w0 := w) w.heap.size rfl (.tmp 51) (.tmp 58) 37 9 (.string ⟨#[]⟩) 16 rfl Try.underlying37 info9 rfl (by decide) (by omega) u5 x5_3 ((rd_T50 l0_3 x7_3).f0) [.string ((rd_T50 l0_3 x7_3).f0)] (fun _ => True) (fun _ => False) rfl rfl ?aP (fun _ hk => hk.elim) ?aF ?aO ?aB ?aS ?aL ?_; (case aP => exact rfl); (case aB => exact (by repeat (first | (with_reducible first | exact HB.out | apply below_alloc | apply pw_below_drewN | apply below_drew1 | refine below_set ?_ GE206.out) | exact HB.out))); (case aF => exact (fun _ _ => trivial)); (case aO => exact (by (with_reducible repeat (first | apply Kd.R_alloc | apply Kd.R_drewN | apply Kd.R_drew)); exact HO_5.out)); (case aS => exact (below_size (by repeat (first | (with_reducible first | exact HB.out | apply below_alloc | apply pw_below_drewN | apply below_drew1 | refine below_set ?_ GE206.out) | exact HB.out)))); (case aL => have := LMc23.out; omega); intro v216 w34 ho hb hg hat; rw [← Ny215.out] at ho; have n0_ := Aside0.mk (blk_grown (g := gb206) (o := .cells #[.string a0_0, .string a0_1, .slice A0_2 l0_2.length c0_2, .slice (some ad212) l0_3.length c0_3] 40 (0, 0)) (by (with_reducible repeat (first | refine blk_drewN ?_ _ | refine blk_drew ?_ | refine blk_alloc ?_ _)); exact BK206.out) hg (Kd.R_ne HO_5.out BK206.out (by decide))); have n1_ := Aside0.mk (hb); have n2_ := Aside0.mk (ho); clear BK206; clear HB; clear HO_5; have BK206 := n0_; have HB := n1_; have HO217 := n2_; clear n0_ n1_ n2_; clear ho hb hg hat; have hcz35_0 : w34.cell? ⟨gb206, 0, none⟩ = some (.string a0_0) := (blk_cell BK206.out 0).trans rfl; have hcz35_1 : w34.cell? ⟨gb206, 1, none⟩ = some (.string a0_1) := (blk_cell BK206.out 1).trans rfl; have hcz35_2 : w34.cell? ⟨gb206, 2, none⟩ = some (.slice A0_2 l0_2.length c0_2) := (blk_cell BK206.out 2).trans rfl; have hcz35_3 : w34.cell? ⟨gb206, 3, none⟩ = some (.slice (some ad212) l0_3.length c0_3) := (blk_cell BK206.out 3).trans rfl; have hfz35_0 := blk_frozen BK206.out 0; have hfz35_1 := blk_frozen BK206.out 1; have hfz35_2 := blk_frozen BK206.out 2; have hfz35_3 := blk_frozen BK206.out 3; have p218 : 0 ≤ (x7_3 : Int) := of_decide_eq_true (by first | (with_reducible assumption) | assumption); have q218 : x7_3 < (l0_3.length : Int) := of_decide_eq_true (by first | (with_reducible assumption) | assumption); obtain ⟨ad218, e218, hx218_0, hx218_1⟩ := at_T50 HR0_3.out x7_3 p218 q218; obtain rfl : ad212 = ad218 := (by injection e218); replace hx218_0 := (HB.out.cell (World.block_lt_of_cell? w _ hx218_0)).trans hx218_0; replace hx218_1 := (HB.out.cell (World.block_lt_of_cell? w _ hx218_1)).trans hx218_1; replace p218 := eq_true p218; replace q218 := eq_true q218))
                              go_roundg k3
                              case measure => have := HJ3.out; have := HJ11.out; have := HK3.out; omega
                              case rel => exact ⟨(y215), (false), (wrap64 (x7_3 + 1)), (by first | rfl | (simp; done) | (simp [*]; done)), (by first | rfl | (simp; done) | (simp [*]; done)), H', ⟨by have := HJ3.out; have := HJ11.out; have := HK3.out; omega⟩, ⟨by (with_reducible repeat (first | apply Kd.R_alloc | apply Kd.R_drewN | apply Kd.R_drew)); exact HO217.out⟩, ⟨by (with_reducible repeat (first | refine blk_drewN ?_ _ | refine blk_drew ?_ | refine blk_alloc ?_ _)); exact BK206.out⟩, ⟨by repeat (first | (with_reducible first | exact HB.out | apply below_alloc | apply pw_below_drewN | apply below_drew1 | refine below_set ?_ GE206.out) | exact HB.out)⟩⟩
                          · replace c24 := Bool.eq_false_iff.mpr c24
                            subst c24
                            have H1 : (registrarref04_May.l0 k3 y215 false (wrap64 (x7_3 + 1)) a0_0 a0_1 l0_2 l0_3) = some r := by rw [if_neg (show ¬ (false = true) by decide)] at H; exact H
                            clear H
                            have H := H1
                            clear H1
                            have H' := Aside0.mk H
                            clear H
                            have hcz36_0 : wr.cell? ⟨gb206, 0, none⟩ = some (.string a0_0) := (blk_cell BK206.out 0).trans rfl
                            have hcz36_1 : wr.cell? ⟨gb206, 1, none⟩ = some (.string a0_1) := (blk_cell BK206.out 1).trans rfl
                            have hcz36_2 : wr.cell? ⟨gb206, 2, none⟩ = some (.slice A0_2 l0_2.length c0_2) := (blk_cell BK206.out 2).trans rfl
                            have hcz36_3 : wr.cell? ⟨gb206, 3, none⟩ = some (.slice A0_3 l0_3.length c0_3) := (blk_cell BK206.out 3).trans rfl
                            have hfz36_0 := blk_frozen BK206.out 0
                            have hfz36_1 := blk_frozen BK206.out 1
                            have hfz36_2 := blk_frozen BK206.out 2
                            have hfz36_3 := blk_frozen BK206.out 3
                            have p212 : 0 ≤ (x7_3 : Int) := of_decide_eq_true (by first | (with_reducible assumption) | assumption)
                            have q212 : x7_3 < (l0_3.length : Int) := of_decide_eq_true (by first | (with_reducible assumption) | assumption)
                            obtain ⟨ad212, e212, hx212_0, hx212_1⟩ := at_T50 HR0_3.out x7_3 p212 q212
                            cases e212
                            replace hx212_0 := (HB.out.cell (World.block_lt_of_cell? w _ hx212_0)).trans hx212_0
                            replace hx212_1 := (HB.out.cell (World.block_lt_of_cell? w _ hx212_1)).trans hx212_1
                            replace p212 := eq_true p212
                            replace q212 := eq_true q212
                            go_wp2_with (first | ((with_reducible refine gate_callee (f := 43) rfl ?_); refine goesL_ (some 48) rfl rfl Try.func43 (by kernel_rfl) rfl #[.string ((rd_T50 l0_3 x7_3).f0)] rfl (by (try simp only [List.map_toArray, List.map_cons, List.map_nil]); first | done | rfl | (simp only [List.length_drop, List.length_take]; rfl)) ?_; (with_reducible refine (registrarref03_MayG.calls ((rd_T50 l0_3 x7_3).f0) true _ A21.out).mono ?_); rintro e w37 ⟨rfl, hb⟩; refine ⟨_, rfl, ?_⟩; have n0_ := Aside0.mk (Kd.R_below (by (with_reducible repeat (first | apply Kd.R_alloc | apply Kd.R_drewN | apply Kd.R_drew)); exact HO_5.out) hb); have n1_ := Aside0.mk (blk_below (g := gb206) (o := .cells #[.string a0_0, .string a0_1, .slice A0_2 l0_2.length c0_2, .slice (some ad212) l0_3.length c0_3] 40 (0, 0)) (by (with_reducible repeat (first | refine blk_drewN ?_ _ | refine blk_drew ?_ | refine blk_alloc ?_ _)); exact BK206.out) hb); have n2_ := Aside0.mk (below_step (by repeat (first | (with_reducible first | exact HB.out | apply below_alloc | apply pw_below_drewN | apply below_drew1 | refine below_set ?_ GE206.out) | exact HB.out)) hb); clear HO_5; clear BK206; clear HB; have HO_5 := n0_; have BK206 := n1_; have HB := n2_; clear n0_ n1_ n2_; (try clear hb); (try clear hb2); (try clear hk); (try clear hi); have hcz38_0 : w37.cell? ⟨gb206, 0, none⟩ = some (.string a0_0) := (blk_cell BK206.out 0).trans rfl; have hcz38_1 : w37.cell? ⟨gb206, 1, none⟩ = some (.string a0_1) := (blk_cell BK206.out 1).trans rfl; have hcz38_2 : w37.cell? ⟨gb206, 2, none⟩ = some (.slice A0_2 l0_2.length c0_2) := (blk_cell BK206.out 2).trans rfl; have hcz38_3 : w37.cell? ⟨gb206, 3, none⟩ = some (.slice (some ad212) l0_3.length c0_3) := (blk_cell BK206.out 3).trans rfl; have hfz38_0 := blk_frozen BK206.out 0; have hfz38_1 := blk_frozen BK206.out 1; have hfz38_2 := blk_frozen BK206.out 2; have hfz38_3 := blk_frozen BK206.out 3; have p214 : 0 ≤ (x7_3 : Int) := of_decide_eq_true (by first | (with_reducible assumption) | assumption); have q214 : x7_3 < (l0_3.length : Int) := of_decide_eq_true (by first | (with_reducible assumption) | assumption); obtain ⟨ad214, e214, hx214_0, hx214_1⟩ := at_T50 HR0_3.out x7_3 p214 q214; obtain rfl : ad212 = ad214 := (by injection e214); replace hx214_0 := (HB.out.cell (World.block_lt_of_cell? w _ hx214_0)).trans hx214_0; replace hx214_1 := (HB.out.cell (World.block_lt_of_cell? w _ hx214_1)).trans hx214_1; replace p214 := eq_true p214; replace q214 := eq_true q214) | ((with_reducible refine gate_builtin (b := .append) (xs := #[.tmp 51, .tmp 58]) rfl ?_); (try (refine gate_guard (by rfl) ?_; dsimp only)); at_builtin; refine Kd.R_append Kd.string (w0 := w) w.heap.size rfl (.tmp 51) (.tmp 58) 37 9 (.string ⟨#[]⟩) 16 rfl Try.underlying37 info9 rfl (by decide) (by omega) u5 x5_3 ((rd_T50 l0_3 x7_3).f0) [.string ((rd_T50 l0_3 x7_3).f0)] (fun _ => True) (fun _ => False) rfl rfl ?aP (fun _ hk => hk.elim) ?aF ?aO ?aB ?aS ?aL ?_; (case aP => exact rfl); (case aB => exact (by repeat (first | (with_reducible first | exact HB.out | apply below_alloc | apply pw_below_drewN | apply below_drew1 | refine below_set ?_ GE206.out) | exact HB.out))); (case aF => exact (fun _ _ => trivial)); (case aO => exact (by (with_reducible repeat (first | apply Kd.R_alloc | apply Kd.R_drewN | apply Kd.R_drew)); exact HO_5.out)); (case aS => exact (below_size (by repeat (first | (with_reducible first | exact HB.out | apply below_alloc | apply pw_below_drewN | apply below_drew1 | refine below_set ?_ GE206.out) | exact HB.out)))); (case aL => have := LMc23.out; omega); intro v216 w39 ho hb hg hat; rw [← Ny215.out] at ho; have n0_ := Aside0.mk (blk_grown (g := gb206) (o := .cells #[.string a0_0, .string a0_1, .slice A0_2 l0_2.length c0_2, .slice (some ad212) l0_3.length c0_3] 40 (0, 0)) (by (with_reducible repeat (first | refine blk_drewN ?_ _ | refine blk_drew ?_ | refine blk_alloc ?_ _)); exact BK206.out) hg (Kd.R_ne HO_5.out BK206.out (by decide))); have n1_ := Aside0.mk (hb); have n2_ := Aside0.mk (ho); clear BK206; clear HB; clear HO_5; have BK206 := n0_; have HB := n1_; have HO217 := n2_; clear n0_ n1_ n2_; clear ho hb hg hat))
                            go_roundg k3
                            case measure => have := HJ3.out; have := HJ11.out; have := HK3.out; omega
                            case rel => exact ⟨(y215), (false), (wrap64 (x7_3 + 1)), (by first | rfl | (simp; done) | (simp [*]; done)), (by first | rfl | (simp; done) | (simp [*]; done)), H', ⟨by have := HJ3.out; have := HJ11.out; have := HK3.out; omega⟩, ⟨by (with_reducible repeat (first | apply Kd.R_alloc | apply Kd.R_drewN | apply Kd.R_drew)); exact HO217.out⟩, ⟨by (with_reducible repeat (first | refine blk_drewN ?_ _ | refine blk_drew ?_ | refine blk_alloc ?_ _)); exact BK206.out⟩, ⟨by repeat (first | (with_reducible first | exact HB.out | apply below_alloc | apply pw_below_drewN | apply below_drew1 | refine below_set ?_ GE206.out) | exact HB.out)⟩⟩
                        · rw [if_neg c23] at H
                          exact absurd H (by simp)
                      · replace c22 := Bool.eq_false_iff.mpr c22
                        subst c22
                        have H1 : (some 5) = some r := by rw [if_neg (show ¬ (false = true) by decide)] at H; exact H
                        clear H
                        have H := H1
                        clear H1
                        obtain rfl := Option.some.inj H
                        have hcz40_0 : wr.cell? ⟨gb206, 0, none⟩ = some (.string a0_0) := (blk_cell BK206.out 0).trans rfl
                        have hcz40_1 : wr.cell? ⟨gb206, 1, none⟩ = some (.string a0_1) := (blk_cell BK206.out 1).trans rfl
                        have hcz40_2 : wr.cell? ⟨gb206, 2, none⟩ = some (.slice A0_2 l0_2.length c0_2) := (blk_cell BK206.out 2).trans rfl
                        have hcz40_3 : wr.cell? ⟨gb206, 3, none⟩ = some (.slice A0_3 l0_3.length c0_3) := (blk_cell BK206.out 3).trans rfl
                        have hfz40_0 := blk_frozen BK206.out 0
                        have hfz40_1 := blk_frozen BK206.out 1
                        have hfz40_2 := blk_frozen BK206.out 2
                        have hfz40_3 := blk_frozen BK206.out 3
                        have p212 : 0 ≤ (x7_3 : Int) := of_decide_eq_true (by first | (with_reducible assumption) | assumption)
                        have q212 : x7_3 < (l0_3.length : Int) := of_decide_eq_true (by first | (with_reducible assumption) | assumption)
                        obtain ⟨ad212, e212, hx212_0, hx212_1⟩ := at_T50 HR0_3.out x7_3 p212 q212
                        cases e212
                        replace hx212_0 := (HB.out.cell (World.block_lt_of_cell? w _ hx212_0)).trans hx212_0
                        replace hx212_1 := (HB.out.cell (World.block_lt_of_cell? w _ hx212_1)).trans hx212_1
                        replace p212 := eq_true p212
                        replace q212 := eq_true q212
                        go_wp2_with (first | ((with_reducible refine gate_callee (f := 43) rfl ?_); refine goesL_ (some 48) rfl rfl Try.func43 (by kernel_rfl) rfl #[.string ((rd_T50 l0_3 x7_3).f0)] rfl (by (try simp only [List.map_toArray, List.map_cons, List.map_nil]); first | done | rfl | (simp only [List.length_drop, List.length_take]; rfl)) ?_; (with_reducible refine (registrarref03_MayG.calls ((rd_T50 l0_3 x7_3).f0) false _ A21.out).mono ?_); rintro e w41 ⟨rfl, hb⟩; refine ⟨_, rfl, ?_⟩; have n0_ := Aside0.mk (Kd.R_below (by (with_reducible repeat (first | apply Kd.R_alloc | apply Kd.R_drewN | apply Kd.R_drew)); exact HO_5.out) hb); have n1_ := Aside0.mk (blk_below (g := gb206) (o := .cells #[.string a0_0, .string a0_1, .slice A0_2 l0_2.length c0_2, .slice (some ad212) l0_3.length c0_3] 40 (0, 0)) (by (with_reducible repeat (first | refine blk_drewN ?_ _ | refine blk_drew ?_ | refine blk_alloc ?_ _)); exact BK206.out) hb); have n2_ := Aside0.mk (below_step (by repeat (first | (with_reducible first | exact HB.out | apply below_alloc | apply pw_below_drewN | apply below_drew1 | refine below_set ?_ GE206.out) | exact HB.out)) hb); clear HO_5; clear BK206; clear HB; have HO_5 := n0_; have BK206 := n1_; have HB := n2_; clear n0_ n1_ n2_; (try clear hb); (try clear hb2); (try clear hk); (try clear hi)))
                        go_ret
                        exact ⟨by first | rfl | (simp [errW_none, errW_some] <;> rfl) | (simp [*, errW_none, errW_some] <;> rfl), by repeat (first | (with_reducible first | exact HB.out | apply below_alloc | apply pw_below_drewN | apply below_drew1 | refine below_set ?_ GE206.out) | exact HB.out)⟩
                    · rw [if_neg c20] at H
                      exact absurd H (by simp)
                  · rw [if_neg c19] at H
                    have c19b0 : decide (x7_3 < (l0_3.length : Int)) = false := decide_eq_false c19
                    clear c19
                    replace H := Option.bind_eq_some_iff.mp H
                    obtain ⟨t220, A420, H⟩ := H
                    replace H : (if t220 = true then ((registrarref04_RiseG.f l0_2).bind fun t221 => ((registrarref04_RiseG.f x5_3).bind fun t222 => (if x6_3 = true then (if t221 = true then (if t222 = true then (some 0) else (some 1)) else (some 1)) else (some 1)))) else (some 5)) = some r := H
                    have A42 := Aside0.mk A420
                    clear A420
                    by_cases c43 : t220 = true
                    · subst c43
                      have H1 : ((registrarref04_RiseG.f l0_2).bind fun t221 => ((registrarref04_RiseG.f x5_3).bind fun t222 => (if x6_3 = true then (if t221 = true then (if t222 = true then (some 0) else (some 1)) else (some 1)) else (some 1)))) = some r := by rw [if_pos rfl] at H; exact H
                      clear H
                      have H := H1
                      clear H1
                      replace H := Option.bind_eq_some_iff.mp H
                      obtain ⟨t221, A440, H⟩ := H
                      replace H : ((registrarref04_RiseG.f x5_3).bind fun t222 => (if x6_3 = true then (if t221 = true then (if t222 = true then (some 0) else (some 1)) else (some 1)) else (some 1))) = some r := H
                      have A44 := Aside0.mk A440
                      clear A440
                      replace H := Option.bind_eq_some_iff.mp H
                      obtain ⟨t222, A450, H⟩ := H
                      replace H : (if x6_3 = true then (if t221 = true then (if t222 = true then (some 0) else (some 1)) else (some 1)) else (some 1)) = some r := H
                      have A45 := Aside0.mk A450
                      clear A450
                      by_cases c46 : x6_3 = true
                      · subst c46
                        have H1 : (if t221 = true then (if t222 = true then (some 0) else (some 1)) else (some 1)) = some r := by rw [if_pos rfl] at H; exact H
                        clear H
                        have H := H1
                        clear H1
                        by_cases c47 : t221 = true
                        · subst c47
                          have H1 : (if t222 = true then (some 0) else (some 1)) = some r := by rw [if_pos rfl] at H; exact H
                          clear H
                          have H := H1
                          clear H1
                          by_cases c48 : t222 = true
                          · subst c48
                            have H1 : (some 0) = some r := by rw [if_pos rfl] at H; exact H
                            clear H
                            have H := H1
                            clear H1
                            obtain rfl := Option.some.inj H
                            have hcz49_0 : wr.cell? ⟨gb206, 0, none⟩ = some (.string a0_0) := (blk_cell BK206.out 0).trans rfl
                            have hcz49_1 : wr.cell? ⟨gb206, 1, none⟩ = some (.string a0_1) := (blk_cell BK206.out 1).trans rfl
                            have hcz49_2 : wr.cell? ⟨gb206, 2, none⟩ = some (.slice A0_2 l0_2.length c0_2) := (blk_cell BK206.out 2).trans rfl
                            have hcz49_3 : wr.cell? ⟨gb206, 3, none⟩ = some (.slice A0_3 l0_3.length c0_3) := (blk_cell BK206.out 3).trans rfl
                            have hfz49_0 := blk_frozen BK206.out 0
                            have hfz49_1 := blk_frozen BK206.out 1
                            have hfz49_2 := blk_frozen BK206.out 2
                            have hfz49_3 := blk_frozen BK206.out 3
                            go_wp2_with (first | ((with_reducible refine gate_callee (f := 44) rfl ?_); refine goesL_ (some 81) rfl rfl Try.func44 (by kernel_rfl) rfl #[.slice A0_2 l0_2.length c0_2] rfl (by (try simp only [List.map_toArray, List.map_cons, List.map_nil]); first | done | rfl | (simp only [List.length_drop, List.length_take]; rfl)) ?_; (with_reducible refine (registrarref04_tagsG.calls _ _ l0_2 true _ ?side1 ?side2 A42.out).mono ?_); (case side1 => repeat (first | exact (Kd.C_below HR0_2.out HB.out) | (with_reducible refine Kd.C_alloc ?_ _) | (with_reducible refine Kd.C_drewN ?_ _) | (with_reducible refine Kd.C_drew ?_))); (case side2 => exact HC0_2.out); rintro e w50 ⟨rfl, hb⟩; refine ⟨_, rfl, ?_⟩; have n0_ := Aside0.mk (Kd.R_below (by (with_reducible repeat (first | apply Kd.R_alloc | apply Kd.R_drewN | apply Kd.R_drew)); exact HO_5.out) hb); have n1_ := Aside0.mk (blk_below (g := gb206) (o := .cells #[.string a0_0, .string a0_1, .slice A0_2 l0_2.length c0_2, .slice A0_3 l0_3.length c0_3] 40 (0, 0)) (by (with_reducible repeat (first | refine blk_drewN ?_ _ | refine blk_drew ?_ | refine blk_alloc ?_ _)); exact BK206.out) hb); have n2_ := Aside0.mk (below_step (by repeat (first | (with_reducible first | exact HB.out | apply below_alloc | apply pw_below_drewN | apply below_drew1 | refine below_set ?_ GE206.out) | exact HB.out)) hb); clear HO_5; clear BK206; clear HB; have HO_5 := n0_; have BK206 := n1_; have HB := n2_; clear n0_ n1_ n2_; (try clear hb); (try clear hb2); (try clear hk); (try clear hi); have hcz51_0 : w50.cell? ⟨gb206, 0, none⟩ = some (.string a0_0) := (blk_cell BK206.out 0).trans rfl; have hcz51_1 : w50.cell? ⟨gb206, 1, none⟩ = some (.string a0_1) := (blk_cell BK206.out 1).trans rfl; have hcz51_2 : w50.cell? ⟨gb206, 2, none⟩ = some (.slice A0_2 l0_2.length c0_2) := (blk_cell BK206.out 2).trans rfl; have hcz51_3 : w50.cell? ⟨gb206, 3, none⟩ = some (.slice A0_3 l0_3.length c0_3) := (blk_cell BK206.out 3).trans rfl; have hfz51_0 := blk_frozen BK206.out 0; have hfz51_1 := blk_frozen BK206.out 1; have hfz51_2 := blk_frozen BK206.out 2; have hfz51_3 := blk_frozen BK206.out 3) | ((with_reducible refine gate_callee (f := 45) rfl ?_); refine goesL_ (some 86) rfl rfl Try.func45 (by kernel_rfl) rfl #[.slice A0_2 l0_2.length c0_2] rfl (by (try simp only [List.map_toArray, List.map_cons, List.map_nil]); first | done | rfl | (simp only [List.length_drop, List.length_take]; rfl)) ?_; (with_reducible refine (registrarref04_RiseG.calls _ _ l0_2 true _ ?side1 ?side2 A44.out).mono ?_); (case side1 => repeat (first | exact (Kd.C_below HR0_2.out HB.out) | (with_reducible refine Kd.C_alloc ?_ _) | (with_reducible refine Kd.C_drewN ?_ _) | (with_reducible refine Kd.C_drew ?_))); (case side2 => exact HC0_2.out); rintro e w' ⟨rfl, ⟨nd, rfl⟩⟩; refine ⟨_, rfl, ?_⟩; obtain ⟨Ao52, co52, eo52⟩ := Kd.R_slice HO_5.out; subst eo52) | ((with_reducible refine gate_callee (f := 45) rfl ?_); refine goesL_ (some 88) rfl rfl Try.func45 (by kernel_rfl) rfl #[.slice Ao52 x5_3.length co52] rfl (by (try simp only [List.map_toArray, List.map_cons, List.map_nil]); first | done | rfl | (simp only [List.length_drop, List.length_take]; rfl)) ?_; (with_reducible refine (registrarref04_RiseG.calls _ _ x5_3 true _ ?side1 ?side2 A45.out).mono ?_); (case side1 => repeat (first | exact (Kd.R_reads' HO_5.out).2.2 | (with_reducible refine Kd.C_alloc ?_ _) | (with_reducible refine Kd.C_drewN ?_ _) | (with_reducible refine Kd.C_drew ?_))); (case side2 => exact (Kd.R_reads' HO_5.out).2.1); rintro e w' ⟨rfl, ⟨nd, rfl⟩⟩; refine ⟨_, rfl, ?_⟩))
                            go_ret
                            exact ⟨by first | rfl | (simp [errW_none, errW_some] <;> rfl) | (simp [*, errW_none, errW_some] <;> rfl), by repeat (first | (with_reducible first | exact HB.out | apply below_alloc | apply pw_below_drewN | apply below_drew1 | refine below_set ?_ GE206.out) | exact HB.out)⟩
                          · replace c48 := Bool.eq_false_iff.mpr c48
                            subst c48
                            have H1 : (some 1) = some r := by rw [if_neg (show ¬ (false = true) by decide)] at H; exact H
                            clear H
                            have H := H1
                            clear H1
                            obtain rfl := Option.some.inj H
                            have hcz53_0 : wr.cell? ⟨gb206, 0, none⟩ = some (.string a0_0) := (blk_cell BK206.out 0).trans rfl
                            have hcz53_1 : wr.cell? ⟨gb206, 1, none⟩ = some (.string a0_1) := (blk_cell BK206.out 1).trans rfl
                            have hcz53_2 : wr.cell? ⟨gb206, 2, none⟩ = some (.slice A0_2 l0_2.length c0_2) := (blk_cell BK206.out 2).trans rfl
                            have hcz53_3 : wr.cell? ⟨gb206, 3, none⟩ = some (.slice A0_3 l0_3.length c0_3) := (blk_cell BK206.out 3).trans rfl
                            have hfz53_0 := blk_frozen BK206.out 0
                            have hfz53_1 := blk_frozen BK206.out 1
                            have hfz53_2 := blk_frozen BK206.out 2
                            have hfz53_3 := blk_frozen BK206.out 3
                            go_wp2_with (first | ((with_reducible refine gate_callee (f := 44) rfl ?_); refine goesL_ (some 81) rfl rfl Try.func44 (by kernel_rfl) rfl #[.slice A0_2 l0_2.length c0_2] rfl (by (try simp only [List.map_toArray, List.map_cons, List.map_nil]); first | done | rfl | (simp only [List.length_drop, List.length_take]; rfl)) ?_; (with_reducible refine (registrarref04_tagsG.calls _ _ l0_2 true _ ?side1 ?side2 A42.out).mono ?_); (case side1 => repeat (first | exact (Kd.C_below HR0_2.out HB.out) | (with_reducible refine Kd.C_alloc ?_ _) | (with_reducible refine Kd.C_drewN ?_ _) | (with_reducible refine Kd.C_drew ?_))); (case side2 => exact HC0_2.out); rintro e w54 ⟨rfl, hb⟩; refine ⟨_, rfl, ?_⟩; have n0_ := Aside0.mk (Kd.R_below (by (with_reducible repeat (first | apply Kd.R_alloc | apply Kd.R_drewN | apply Kd.R_drew)); exact HO_5.out) hb); have n1_ := Aside0.mk (blk_below (g := gb206) (o := .cells #[.string a0_0, .string a0_1, .slice A0_2 l0_2.length c0_2, .slice A0_3 l0_3.length c0_3] 40 (0, 0)) (by (with_reducible repeat (first | refine blk_drewN ?_ _ | refine blk_drew ?_ | refine blk_alloc ?_ _)); exact BK206.out) hb); have n2_ := Aside0.mk (below_step (by repeat (first | (with_reducible first | exact HB.out | apply below_alloc | apply pw_below_drewN | apply below_drew1 | refine below_set ?_ GE206.out) | exact HB.out)) hb); clear HO_5; clear BK206; clear HB; have HO_5 := n0_; have BK206 := n1_; have HB := n2_; clear n0_ n1_ n2_; (try clear hb); (try clear hb2); (try clear hk); (try clear hi); have hcz55_0 : w54.cell? ⟨gb206, 0, none⟩ = some (.string a0_0) := (blk_cell BK206.out 0).trans rfl; have hcz55_1 : w54.cell? ⟨gb206, 1, none⟩ = some (.string a0_1) := (blk_cell BK206.out 1).trans rfl; have hcz55_2 : w54.cell? ⟨gb206, 2, none⟩ = some (.slice A0_2 l0_2.length c0_2) := (blk_cell BK206.out 2).trans rfl; have hcz55_3 : w54.cell? ⟨gb206, 3, none⟩ = some (.slice A0_3 l0_3.length c0_3) := (blk_cell BK206.out 3).trans rfl; have hfz55_0 := blk_frozen BK206.out 0; have hfz55_1 := blk_frozen BK206.out 1; have hfz55_2 := blk_frozen BK206.out 2; have hfz55_3 := blk_frozen BK206.out 3) | ((with_reducible refine gate_callee (f := 45) rfl ?_); refine goesL_ (some 86) rfl rfl Try.func45 (by kernel_rfl) rfl #[.slice A0_2 l0_2.length c0_2] rfl (by (try simp only [List.map_toArray, List.map_cons, List.map_nil]); first | done | rfl | (simp only [List.length_drop, List.length_take]; rfl)) ?_; (with_reducible refine (registrarref04_RiseG.calls _ _ l0_2 true _ ?side1 ?side2 A44.out).mono ?_); (case side1 => repeat (first | exact (Kd.C_below HR0_2.out HB.out) | (with_reducible refine Kd.C_alloc ?_ _) | (with_reducible refine Kd.C_drewN ?_ _) | (with_reducible refine Kd.C_drew ?_))); (case side2 => exact HC0_2.out); rintro e w' ⟨rfl, ⟨nd, rfl⟩⟩; refine ⟨_, rfl, ?_⟩; obtain ⟨Ao56, co56, eo56⟩ := Kd.R_slice HO_5.out; subst eo56) | ((with_reducible refine gate_callee (f := 45) rfl ?_); refine goesL_ (some 88) rfl rfl Try.func45 (by kernel_rfl) rfl #[.slice Ao56 x5_3.length co56] rfl (by (try simp only [List.map_toArray, List.map_cons, List.map_nil]); first | done | rfl | (simp only [List.length_drop, List.length_take]; rfl)) ?_; (with_reducible refine (registrarref04_RiseG.calls _ _ x5_3 false _ ?side1 ?side2 A45.out).mono ?_); (case side1 => repeat (first | exact (Kd.R_reads' HO_5.out).2.2 | (with_reducible refine Kd.C_alloc ?_ _) | (with_reducible refine Kd.C_drewN ?_ _) | (with_reducible refine Kd.C_drew ?_))); (case side2 => exact (Kd.R_reads' HO_5.out).2.1); rintro e w' ⟨rfl, ⟨nd, rfl⟩⟩; refine ⟨_, rfl, ?_⟩))
                            go_ret
                            exact ⟨by first | rfl | (simp [errW_none, errW_some] <;> rfl) | (simp [*, errW_none, errW_some] <;> rfl), by repeat (first | (with_reducible first | exact HB.out | apply below_alloc | apply pw_below_drewN | apply below_drew1 | refine below_set ?_ GE206.out) | exact HB.out)⟩
                        · replace c47 := Bool.eq_false_iff.mpr c47
                          subst c47
                          have H1 : (some 1) = some r := by rw [if_neg (show ¬ (false = true) by decide)] at H; exact H
                          clear H
                          have H := H1
                          clear H1
                          obtain rfl := Option.some.inj H
                          have hcz57_0 : wr.cell? ⟨gb206, 0, none⟩ = some (.string a0_0) := (blk_cell BK206.out 0).trans rfl
                          have hcz57_1 : wr.cell? ⟨gb206, 1, none⟩ = some (.string a0_1) := (blk_cell BK206.out 1).trans rfl
                          have hcz57_2 : wr.cell? ⟨gb206, 2, none⟩ = some (.slice A0_2 l0_2.length c0_2) := (blk_cell BK206.out 2).trans rfl
                          have hcz57_3 : wr.cell? ⟨gb206, 3, none⟩ = some (.slice A0_3 l0_3.length c0_3) := (blk_cell BK206.out 3).trans rfl
                          have hfz57_0 := blk_frozen BK206.out 0
                          have hfz57_1 := blk_frozen BK206.out 1
                          have hfz57_2 := blk_frozen BK206.out 2
                          have hfz57_3 := blk_frozen BK206.out 3
                          go_wp2_with (first | ((with_reducible refine gate_callee (f := 44) rfl ?_); refine goesL_ (some 81) rfl rfl Try.func44 (by kernel_rfl) rfl #[.slice A0_2 l0_2.length c0_2] rfl (by (try simp only [List.map_toArray, List.map_cons, List.map_nil]); first | done | rfl | (simp only [List.length_drop, List.length_take]; rfl)) ?_; (with_reducible refine (registrarref04_tagsG.calls _ _ l0_2 true _ ?side1 ?side2 A42.out).mono ?_); (case side1 => repeat (first | exact (Kd.C_below HR0_2.out HB.out) | (with_reducible refine Kd.C_alloc ?_ _) | (with_reducible refine Kd.C_drewN ?_ _) | (with_reducible refine Kd.C_drew ?_))); (case side2 => exact HC0_2.out); rintro e w58 ⟨rfl, hb⟩; refine ⟨_, rfl, ?_⟩; have n0_ := Aside0.mk (Kd.R_below (by (with_reducible repeat (first | apply Kd.R_alloc | apply Kd.R_drewN | apply Kd.R_drew)); exact HO_5.out) hb); have n1_ := Aside0.mk (blk_below (g := gb206) (o := .cells #[.string a0_0, .string a0_1, .slice A0_2 l0_2.length c0_2, .slice A0_3 l0_3.length c0_3] 40 (0, 0)) (by (with_reducible repeat (first | refine blk_drewN ?_ _ | refine blk_drew ?_ | refine blk_alloc ?_ _)); exact BK206.out) hb); have n2_ := Aside0.mk (below_step (by repeat (first | (with_reducible first | exact HB.out | apply below_alloc | apply pw_below_drewN | apply below_drew1 | refine below_set ?_ GE206.out) | exact HB.out)) hb); clear HO_5; clear BK206; clear HB; have HO_5 := n0_; have BK206 := n1_; have HB := n2_; clear n0_ n1_ n2_; (try clear hb); (try clear hb2); (try clear hk); (try clear hi); have hcz59_0 : w58.cell? ⟨gb206, 0, none⟩ = some (.string a0_0) := (blk_cell BK206.out 0).trans rfl; have hcz59_1 : w58.cell? ⟨gb206, 1, none⟩ = some (.string a0_1) := (blk_cell BK206.out 1).trans rfl; have hcz59_2 : w58.cell? ⟨gb206, 2, none⟩ = some (.slice A0_2 l0_2.length c0_2) := (blk_cell BK206.out 2).trans rfl; have hcz59_3 : w58.cell? ⟨gb206, 3, none⟩ = some (.slice A0_3 l0_3.length c0_3) := (blk_cell BK206.out 3).trans rfl; have hfz59_0 := blk_frozen BK206.out 0; have hfz59_1 := blk_frozen BK206.out 1; have hfz59_2 := blk_frozen BK206.out 2; have hfz59_3 := blk_frozen BK206.out 3) | ((with_reducible refine gate_callee (f := 45) rfl ?_); refine goesL_ (some 86) rfl rfl Try.func45 (by kernel_rfl) rfl #[.slice A0_2 l0_2.length c0_2] rfl (by (try simp only [List.map_toArray, List.map_cons, List.map_nil]); first | done | rfl | (simp only [List.length_drop, List.length_take]; rfl)) ?_; (with_reducible refine (registrarref04_RiseG.calls _ _ l0_2 false _ ?side1 ?side2 A44.out).mono ?_); (case side1 => repeat (first | exact (Kd.C_below HR0_2.out HB.out) | (with_reducible refine Kd.C_alloc ?_ _) | (with_reducible refine Kd.C_drewN ?_ _) | (with_reducible refine Kd.C_drew ?_))); (case side2 => exact HC0_2.out); rintro e w' ⟨rfl, ⟨nd, rfl⟩⟩; refine ⟨_, rfl, ?_⟩; obtain ⟨Ao60, co60, eo60⟩ := Kd.R_slice HO_5.out; subst eo60) | ((with_reducible refine gate_callee (f := 45) rfl ?_); refine goesL_ (some 88) rfl rfl Try.func45 (by kernel_rfl) rfl #[.slice Ao60 x5_3.length co60] rfl (by (try simp only [List.map_toArray, List.map_cons, List.map_nil]); first | done | rfl | (simp only [List.length_drop, List.length_take]; rfl)) ?_; (with_reducible refine (registrarref04_RiseG.calls _ _ x5_3 t222 _ ?side1 ?side2 A45.out).mono ?_); (case side1 => repeat (first | exact (Kd.R_reads' HO_5.out).2.2 | (with_reducible refine Kd.C_alloc ?_ _) | (with_reducible refine Kd.C_drewN ?_ _) | (with_reducible refine Kd.C_drew ?_))); (case side2 => exact (Kd.R_reads' HO_5.out).2.1); rintro e w' ⟨rfl, ⟨nd, rfl⟩⟩; refine ⟨_, rfl, ?_⟩))
                          go_ret
                          exact ⟨by first | rfl | (simp [errW_none, errW_some] <;> rfl) | (simp [*, errW_none, errW_some] <;> rfl), by repeat (first | (with_reducible first | exact HB.out | apply below_alloc | apply pw_below_drewN | apply below_drew1 | refine below_set ?_ GE206.out) | exact HB.out)⟩
                      · replace c46 := Bool.eq_false_iff.mpr c46
                        subst c46
                        have H1 : (some 1) = some r := by rw [if_neg (show ¬ (false = true) by decide)] at H; exact H
                        clear H
                        have H := H1
                        clear H1
                        obtain rfl := Option.some.inj H
                        have hcz61_0 : wr.cell? ⟨gb206, 0, none⟩ = some (.string a0_0) := (blk_cell BK206.out 0).trans rfl
                        have hcz61_1 : wr.cell? ⟨gb206, 1, none⟩ = some (.string a0_1) := (blk_cell BK206.out 1).trans rfl
                        have hcz61_2 : wr.cell? ⟨gb206, 2, none⟩ = some (.slice A0_2 l0_2.length c0_2) := (blk_cell BK206.out 2).trans rfl
                        have hcz61_3 : wr.cell? ⟨gb206, 3, none⟩ = some (.slice A0_3 l0_3.length c0_3) := (blk_cell BK206.out 3).trans rfl
                        have hfz61_0 := blk_frozen BK206.out 0
                        have hfz61_1 := blk_frozen BK206.out 1
                        have hfz61_2 := blk_frozen BK206.out 2
                        have hfz61_3 := blk_frozen BK206.out 3
                        go_wp2_with (first | ((with_reducible refine gate_callee (f := 44) rfl ?_); refine goesL_ (some 81) rfl rfl Try.func44 (by kernel_rfl) rfl #[.slice A0_2 l0_2.length c0_2] rfl (by (try simp only [List.map_toArray, List.map_cons, List.map_nil]); first | done | rfl | (simp only [List.length_drop, List.length_take]; rfl)) ?_; (with_reducible refine (registrarref04_tagsG.calls _ _ l0_2 true _ ?side1 ?side2 A42.out).mono ?_); (case side1 => repeat (first | exact (Kd.C_below HR0_2.out HB.out) | (with_reducible refine Kd.C_alloc ?_ _) | (with_reducible refine Kd.C_drewN ?_ _) | (with_reducible refine Kd.C_drew ?_))); (case side2 => exact HC0_2.out); rintro e w62 ⟨rfl, hb⟩; refine ⟨_, rfl, ?_⟩; have n0_ := Aside0.mk (Kd.R_below (by (with_reducible repeat (first | apply Kd.R_alloc | apply Kd.R_drewN | apply Kd.R_drew)); exact HO_5.out) hb); have n1_ := Aside0.mk (blk_below (g := gb206) (o := .cells #[.string a0_0, .string a0_1, .slice A0_2 l0_2.length c0_2, .slice A0_3 l0_3.length c0_3] 40 (0, 0)) (by (with_reducible repeat (first | refine blk_drewN ?_ _ | refine blk_drew ?_ | refine blk_alloc ?_ _)); exact BK206.out) hb); have n2_ := Aside0.mk (below_step (by repeat (first | (with_reducible first | exact HB.out | apply below_alloc | apply pw_below_drewN | apply below_drew1 | refine below_set ?_ GE206.out) | exact HB.out)) hb); clear HO_5; clear BK206; clear HB; have HO_5 := n0_; have BK206 := n1_; have HB := n2_; clear n0_ n1_ n2_; (try clear hb); (try clear hb2); (try clear hk); (try clear hi); have hcz63_0 : w62.cell? ⟨gb206, 0, none⟩ = some (.string a0_0) := (blk_cell BK206.out 0).trans rfl; have hcz63_1 : w62.cell? ⟨gb206, 1, none⟩ = some (.string a0_1) := (blk_cell BK206.out 1).trans rfl; have hcz63_2 : w62.cell? ⟨gb206, 2, none⟩ = some (.slice A0_2 l0_2.length c0_2) := (blk_cell BK206.out 2).trans rfl; have hcz63_3 : w62.cell? ⟨gb206, 3, none⟩ = some (.slice A0_3 l0_3.length c0_3) := (blk_cell BK206.out 3).trans rfl; have hfz63_0 := blk_frozen BK206.out 0; have hfz63_1 := blk_frozen BK206.out 1; have hfz63_2 := blk_frozen BK206.out 2; have hfz63_3 := blk_frozen BK206.out 3) | ((with_reducible refine gate_callee (f := 45) rfl ?_); refine goesL_ (some 86) rfl rfl Try.func45 (by kernel_rfl) rfl #[.slice A0_2 l0_2.length c0_2] rfl (by (try simp only [List.map_toArray, List.map_cons, List.map_nil]); first | done | rfl | (simp only [List.length_drop, List.length_take]; rfl)) ?_; (with_reducible refine (registrarref04_RiseG.calls _ _ l0_2 t221 _ ?side1 ?side2 A44.out).mono ?_); (case side1 => repeat (first | exact (Kd.C_below HR0_2.out HB.out) | (with_reducible refine Kd.C_alloc ?_ _) | (with_reducible refine Kd.C_drewN ?_ _) | (with_reducible refine Kd.C_drew ?_))); (case side2 => exact HC0_2.out); rintro e w' ⟨rfl, ⟨nd, rfl⟩⟩; refine ⟨_, rfl, ?_⟩; obtain ⟨Ao64, co64, eo64⟩ := Kd.R_slice HO_5.out; subst eo64) | ((with_reducible refine gate_callee (f := 45) rfl ?_); refine goesL_ (some 88) rfl rfl Try.func45 (by kernel_rfl) rfl #[.slice Ao64 x5_3.length co64] rfl (by (try simp only [List.map_toArray, List.map_cons, List.map_nil]); first | done | rfl | (simp only [List.length_drop, List.length_take]; rfl)) ?_; (with_reducible refine (registrarref04_RiseG.calls _ _ x5_3 t222 _ ?side1 ?side2 A45.out).mono ?_); (case side1 => repeat (first | exact (Kd.R_reads' HO_5.out).2.2 | (with_reducible refine Kd.C_alloc ?_ _) | (with_reducible refine Kd.C_drewN ?_ _) | (with_reducible refine Kd.C_drew ?_))); (case side2 => exact (Kd.R_reads' HO_5.out).2.1); rintro e w' ⟨rfl, ⟨nd, rfl⟩⟩; refine ⟨_, rfl, ?_⟩))
                        go_ret
                        exact ⟨by first | rfl | (simp [errW_none, errW_some] <;> rfl) | (simp [*, errW_none, errW_some] <;> rfl), by repeat (first | (with_reducible first | exact HB.out | apply below_alloc | apply pw_below_drewN | apply below_drew1 | refine below_set ?_ GE206.out) | exact HB.out)⟩
                    · replace c43 := Bool.eq_false_iff.mpr c43
                      subst c43
                      have H1 : (some 5) = some r := by rw [if_neg (show ¬ (false = true) by decide)] at H; exact H
                      clear H
                      have H := H1
                      clear H1
                      obtain rfl := Option.some.inj H
                      have hcz65_0 : wr.cell? ⟨gb206, 0, none⟩ = some (.string a0_0) := (blk_cell BK206.out 0).trans rfl
                      have hcz65_1 : wr.cell? ⟨gb206, 1, none⟩ = some (.string a0_1) := (blk_cell BK206.out 1).trans rfl
                      have hcz65_2 : wr.cell? ⟨gb206, 2, none⟩ = some (.slice A0_2 l0_2.length c0_2) := (blk_cell BK206.out 2).trans rfl
                      have hcz65_3 : wr.cell? ⟨gb206, 3, none⟩ = some (.slice A0_3 l0_3.length c0_3) := (blk_cell BK206.out 3).trans rfl
                      have hfz65_0 := blk_frozen BK206.out 0
                      have hfz65_1 := blk_frozen BK206.out 1
                      have hfz65_2 := blk_frozen BK206.out 2
                      have hfz65_3 := blk_frozen BK206.out 3
                      go_wp2_with (first | ((with_reducible refine gate_callee (f := 44) rfl ?_); refine goesL_ (some 81) rfl rfl Try.func44 (by kernel_rfl) rfl #[.slice A0_2 l0_2.length c0_2] rfl (by (try simp only [List.map_toArray, List.map_cons, List.map_nil]); first | done | rfl | (simp only [List.length_drop, List.length_take]; rfl)) ?_; (with_reducible refine (registrarref04_tagsG.calls _ _ l0_2 false _ ?side1 ?side2 A42.out).mono ?_); (case side1 => repeat (first | exact (Kd.C_below HR0_2.out HB.out) | (with_reducible refine Kd.C_alloc ?_ _) | (with_reducible refine Kd.C_drewN ?_ _) | (with_reducible refine Kd.C_drew ?_))); (case side2 => exact HC0_2.out); rintro e w66 ⟨rfl, hb⟩; refine ⟨_, rfl, ?_⟩; have n0_ := Aside0.mk (Kd.R_below (by (with_reducible repeat (first | apply Kd.R_alloc | apply Kd.R_drewN | apply Kd.R_drew)); exact HO_5.out) hb); have n1_ := Aside0.mk (blk_below (g := gb206) (o := .cells #[.string a0_0, .string a0_1, .slice A0_2 l0_2.length c0_2, .slice A0_3 l0_3.length c0_3] 40 (0, 0)) (by (with_reducible repeat (first | refine blk_drewN ?_ _ | refine blk_drew ?_ | refine blk_alloc ?_ _)); exact BK206.out) hb); have n2_ := Aside0.mk (below_step (by repeat (first | (with_reducible first | exact HB.out | apply below_alloc | apply pw_below_drewN | apply below_drew1 | refine below_set ?_ GE206.out) | exact HB.out)) hb); clear HO_5; clear BK206; clear HB; have HO_5 := n0_; have BK206 := n1_; have HB := n2_; clear n0_ n1_ n2_; (try clear hb); (try clear hb2); (try clear hk); (try clear hi)))
                      go_ret
                      exact ⟨by first | rfl | (simp [errW_none, errW_some] <;> rfl) | (simp [*, errW_none, errW_some] <;> rfl), by repeat (first | (with_reducible first | exact HB.out | apply below_alloc | apply pw_below_drewN | apply below_drew1 | refine below_set ?_ GE206.out) | exact HB.out)⟩

end Go.Proofs.Ytafeakcajhhkoaa.Prt
namespace Go.Proofs.Ytafeakcajhhkoaa.Prt
open Go.RowKit Go.Proofs.YtafeakcajhhkoaaW.PrintWords Go.Proofs.YtafeakcajhhkoaaW.PrintLast Go.Proofs.YtafeakcajhhkoaaW.PrintMore
attribute [local go_sem] max2_int min2_int max_two min_two max_three min_three max_four min_four   -- for this text's walks alone
set_option linter.unusedVariables false
set_option linter.unusedSimpArgs false

theorem eqA50 (d : Nat) (w : World) (x0 y0 : ByteArray) (x1 y1 : Int) :
    (Op.equalIn (d + 2) 50 (.agg #[.string x0, .int .i64 x1]) (.agg #[.string y0, .int .i64 y1])).run Try.prog w = .ok (x0.toList == y0.toList && (x1 == y1)) w := by
  refine eqA_of Try.underlying50 (by kernel_rfl) ?_
  refine eqf_cons (by rfl) (by go_simp; rfl) (by go_simp; rfl) (by go_simp) ?_
  exact eqf_last (by rfl) (by go_simp; rfl) (by go_simp; rfl) (by go_simp)
end Go.Proofs.Ytafeakcajhhkoaa.Prt
namespace Go.Proofs.Ytafeakcajhhkoaa.Prt
open Go.RowKit Go.Proofs.YtafeakcajhhkoaaW.PrintWords Go.Proofs.YtafeakcajhhkoaaW.PrintLast Go.Proofs.YtafeakcajhhkoaaW.PrintMore
attribute [local go_sem] max2_int min2_int max_two min_two max_three min_three max_four min_four   -- for this text's walks alone
set_option linter.unusedVariables false
set_option linter.unusedSimpArgs false

attribute [local go_sem high] eqA50
mutual
def registrarref04_Same.j0 : Nat → Bool → ByteArray → ByteArray → List ByteArray → List (S50) → ByteArray → ByteArray → List ByteArray → List (S50) → Option (Bool)
  | 0, _, _, _, _, _, _, _, _, _ => none
  | k + 1, x36, x284000, x284001, x284002, x284003, x285000, x285001, x285002, x285003 => if x36 = true then (some false) else (registrarref04_Same.l0 k 0 x284000 x284001 x284002 x284003 x285000 x285001 x285002 x285003)
def registrarref04_Same.l0 : Nat → Int → ByteArray → ByteArray → List ByteArray → List (S50) → ByteArray → ByteArray → List ByteArray → List (S50) → Option (Bool)
  | 0, _, _, _, _, _, _, _, _, _ => none
  | k + 1, x6, x284000, x284001, x284002, x284003, x285000, x285001, x285002, x285003 => if x6 < (x284003.length : Int) then (if 0 ≤ x6 then (if x6 < (x285003.length : Int) then (if (!((((rd_T50 x284003 x6).f0).toList) == (((rd_T50 x285003 x6).f0).toList)) || (!(((rd_T50 x284003 x6).f1) == ((rd_T50 x285003 x6).f1)))) = true then (some false) else (registrarref04_Same.l0 k (wrap64 (x6 + 1)) x284000 x284001 x284002 x284003 x285000 x285001 x285002 x285003)) else (none)) else (none)) else (some true)
end
def registrarref04_Same.f (k : Nat) (a0_0 : ByteArray) (a0_1 : ByteArray) (l0_2 : List ByteArray) (l0_3 : List (S50)) (a1_0 : ByteArray) (a1_1 : ByteArray) (l1_2 : List ByteArray) (l1_3 : List (S50)) : Option (Bool) := (registrarref04_TextsG.f l0_2 l1_2).bind fun t285 => (if a0_0.toList = a1_0.toList then (if a0_1.toList = a1_1.toList then (if t285 = true then (registrarref04_Same.j0 k ((l0_3.length : Int) != (l1_3.length : Int)) a0_0 a0_1 l0_2 l0_3 a1_0 a1_1 l1_2 l1_3) else (registrarref04_Same.j0 k true a0_0 a0_1 l0_2 l0_3 a1_0 a1_1 l1_2 l1_3)) else (registrarref04_Same.j0 k true a0_0 a0_1 l0_2 l0_3 a1_0 a1_1 l1_2 l1_3)) else (registrarref04_Same.j0 k true a0_0 a0_1 l0_2 l0_3 a1_0 a1_1 l1_2 l1_3))
set_option maxHeartbeats 8000000 in
set_option maxRecDepth 100000 in
theorem registrarref04_Same.calls (k : Nat) (a0_0 : ByteArray) (a0_1 : ByteArray) (A0_2 : Option Addr) (c0_2 : Nat) (l0_2 : List ByteArray) (A0_3 : Option Addr) (c0_3 : Nat) (l0_3 : List (S50)) (a1_0 : ByteArray) (a1_1 : ByteArray) (A1_2 : Option Addr) (c1_2 : Nat) (l1_2 : List ByteArray) (A1_3 : Option Addr) (c1_3 : Nat) (l1_3 : List (S50)) (r : Bool) (w : World) (hr0_2 : Kd.C Kd.string w A0_2 l0_2.length l0_2) (hc0_2 : l0_2.length ≤ c0_2) (hr0_3 : Kd.C k50 w A0_3 l0_3.length l0_3) (hc0_3 : l0_3.length ≤ c0_3) (hr1_2 : Kd.C Kd.string w A1_2 l1_2.length l1_2) (hc1_2 : l1_2.length ≤ c1_2) (hr1_3 : Kd.C k50 w A1_3 l1_3.length l1_3) (hc1_3 : l1_3.length ≤ c1_3) (h : registrarref04_Same.f k a0_0 a0_1 l0_2 l0_3 a1_0 a1_1 l1_2 l1_3 = some r) :
    Calls Try.prog 46 #[.agg #[.string a0_0, .string a0_1, .slice A0_2 l0_2.length c0_2, .slice A0_3 l0_3.length c0_3], .agg #[.string a1_0, .string a1_1, .slice A1_2 l1_2.length c1_2, .slice A1_3 l1_3.length c1_3]] w fun e w' => e = .returned (.bool r) ∧ Below w.heap.size w w' := by
  have hu40 := Try.underlying40
  have hu50 := Try.underlying50
  have HR0_2 := Aside0.mk hr0_2
  have HC0_2 := Aside0.mk hc0_2
  clear hr0_2 hc0_2
  have HR0_3 := Aside0.mk hr0_3
  have HC0_3 := Aside0.mk hc0_3
  clear hr0_3 hc0_3
  have HR1_2 := Aside0.mk hr1_2
  have HC1_2 := Aside0.mk hc1_2
  clear hr1_2 hc1_2
  have HR1_3 := Aside0.mk hr1_3
  have HC1_3 := Aside0.mk hc1_3
  clear hr1_3 hc1_3
  have HB := Aside0.mk (Below.refl w.heap.size w)
  have H : ((registrarref04_TextsG.f l0_2 l1_2).bind fun t285 => (if a0_0.toList = a1_0.toList then (if a0_1.toList = a1_1.toList then (if t285 = true then (registrarref04_Same.j0 k ((l0_3.length : Int) != (l1_3.length : Int)) a0_0 a0_1 l0_2 l0_3 a1_0 a1_1 l1_2 l1_3) else (registrarref04_Same.j0 k true a0_0 a0_1 l0_2 l0_3 a1_0 a1_1 l1_2 l1_3)) else (registrarref04_Same.j0 k true a0_0 a0_1 l0_2 l0_3 a1_0 a1_1 l1_2 l1_3)) else (registrarref04_Same.j0 k true a0_0 a0_1 l0_2 l0_3 a1_0 a1_1 l1_2 l1_3))) = some r := h
  clear h
  replace H := Option.bind_eq_some_iff.mp H
  obtain ⟨t285, A30, H⟩ := H
  replace H : (if a0_0.toList = a1_0.toList then (if a0_1.toList = a1_1.toList then (if t285 = true then (registrarref04_Same.j0 k ((l0_3.length : Int) != (l1_3.length : Int)) a0_0 a0_1 l0_2 l0_3 a1_0 a1_1 l1_2 l1_3) else (registrarref04_Same.j0 k true a0_0 a0_1 l0_2 l0_3 a1_0 a1_1 l1_2 l1_3)) else (registrarref04_Same.j0 k true a0_0 a0_1 l0_2 l0_3 a1_0 a1_1 l1_2 l1_3)) else (registrarref04_Same.j0 k true a0_0 a0_1 l0_2 l0_3 a1_0 a1_1 l1_2 l1_3)) = some r := H
  have A3 := Aside0.mk A30
  clear A30
  have HC4 := Aside0.mk H
  clear H
  go_enter Try.func46, Try.ntmps46
  go_upto_region 2 with (first | ((with_reducible refine gate_dst (N := 2) rfl ?_); (try (refine gate_guard (by rfl) ?_; dsimp only)); refine box_event ?hg (N := 2) ?hd (cs := #[.string a0_0, .string a0_1, .slice A0_2 l0_2.length c0_2, .slice A0_3 l0_3.length c0_3]) (t := 40) ?hr ?_; (case hd => rfl); (case hg => rfl); (case hr => first | (go_simp; done) | (go_simp; rfl)); intro gb283 hg w5 hbox hb; have n0_ := Aside0.mk (below_step (by repeat (first | (with_reducible first | exact HB.out | apply below_alloc | apply pw_below_drewN | apply below_drew1) | exact HB.out)) hb); have n1_ := Aside0.mk (hbox); have n2_ := Aside0.mk ((by rw [hg]; exact (below_size (by repeat (first | (with_reducible first | exact HB.out | apply below_alloc | apply pw_below_drewN | apply below_drew1) | exact HB.out))) : w.heap.size ≤ gb283)); have n3_ := Aside0.mk ((by rw [hg]; exact (below_size (by repeat (first | (with_reducible first | exact HB.out | apply below_alloc | apply pw_below_drewN | apply below_drew1) | exact HB.out))) : w.heap.size ≤ gb283)); clear HB; have HB := n0_; have BK283 := n1_; have GW283 := n2_; have GE283 := n3_; clear n0_ n1_ n2_ n3_; clear hb hbox hg) | ((with_reducible refine gate_dst (N := 3) rfl ?_); (try (refine gate_guard (by rfl) ?_; dsimp only)); refine box_event ?hg (N := 3) ?hd (cs := #[.string a1_0, .string a1_1, .slice A1_2 l1_2.length c1_2, .slice A1_3 l1_3.length c1_3]) (t := 40) ?hr ?_; (case hd => rfl); (case hg => rfl); (case hr => first | (go_simp; done) | (go_simp; rfl)); intro gb284 hg w6 hbox hb; have n0_ := Aside0.mk (blk_below (g := gb283) (o := .cells #[.string a0_0, .string a0_1, .slice A0_2 l0_2.length c0_2, .slice A0_3 l0_3.length c0_3] 40 (0, 0)) (by (with_reducible repeat (first | refine blk_drewN ?_ _ | refine blk_drew ?_ | refine blk_alloc ?_ _)); exact BK283.out) hb); have n1_ := Aside0.mk (below_step (by repeat (first | (with_reducible first | exact HB.out | apply below_alloc | apply pw_below_drewN | apply below_drew1 | refine below_set ?_ GE283.out) | exact HB.out)) hb); have n2_ := Aside0.mk (hbox); have n3_ := Aside0.mk ((by rw [hg]; exact (below_size (by repeat (first | (with_reducible first | exact HB.out | apply below_alloc | apply pw_below_drewN | apply below_drew1 | refine below_set ?_ GE283.out) | exact HB.out))) : w.heap.size ≤ gb284)); have n4_ := Aside0.mk ((by rw [hg]; exact (below_size (by repeat (first | (with_reducible first | exact HB.out | apply below_alloc | apply pw_below_drewN | apply below_drew1 | refine below_set ?_ GE283.out) | exact HB.out))) : w.heap.size ≤ gb284)); have n5_ := Aside0.mk ((by rw [hg]; exact Nat.ne_of_lt (blk_lt (g := gb283) (o := .cells #[.string a0_0, .string a0_1, .slice A0_2 l0_2.length c0_2, .slice A0_3 l0_3.length c0_3] 40 (0, 0)) (by (with_reducible repeat (first | refine blk_drewN ?_ _ | refine blk_drew ?_ | refine blk_alloc ?_ _)); exact BK283.out)) : gb283 ≠ gb284)); have n6_ := Aside0.mk ((by rw [hg]; exact Nat.ne_of_gt (blk_lt (g := gb283) (o := .cells #[.string a0_0, .string a0_1, .slice A0_2 l0_2.length c0_2, .slice A0_3 l0_3.length c0_3] 40 (0, 0)) (by (with_reducible repeat (first | refine blk_drewN ?_ _ | refine blk_drew ?_ | refine blk_alloc ?_ _)); exact BK283.out)) : gb284 ≠ gb283)); clear BK283; clear HB; have BK283 := n0_; have HB := n1_; have BK284 := n2_; have GW284 := n3_; have GE284 := n4_; have NB283_284 := n5_; have NB284_283 := n6_; clear n0_ n1_ n2_ n3_ n4_ n5_ n6_; clear hb hbox hg; have hnb7 := NB283_284.out; have hnc7 := NB284_283.out; have hcz8_0 : w6.cell? ⟨gb283, 0, none⟩ = some (.string a0_0) := (blk_cell BK283.out 0).trans rfl; have hcz8_1 : w6.cell? ⟨gb283, 1, none⟩ = some (.string a0_1) := (blk_cell BK283.out 1).trans rfl; have hcz8_2 : w6.cell? ⟨gb283, 2, none⟩ = some (.slice A0_2 l0_2.length c0_2) := (blk_cell BK283.out 2).trans rfl; have hcz8_3 : w6.cell? ⟨gb283, 3, none⟩ = some (.slice A0_3 l0_3.length c0_3) := (blk_cell BK283.out 3).trans rfl; have hfz8_0 := blk_frozen BK283.out 0; have hfz8_1 := blk_frozen BK283.out 1; have hfz8_2 := blk_frozen BK283.out 2; have hfz8_3 := blk_frozen BK283.out 3; have hcz9_0 : w6.cell? ⟨gb284, 0, none⟩ = some (.string a1_0) := (blk_cell BK284.out 0).trans rfl; have hcz9_1 : w6.cell? ⟨gb284, 1, none⟩ = some (.string a1_1) := (blk_cell BK284.out 1).trans rfl; have hcz9_2 : w6.cell? ⟨gb284, 2, none⟩ = some (.slice A1_2 l1_2.length c1_2) := (blk_cell BK284.out 2).trans rfl; have hcz9_3 : w6.cell? ⟨gb284, 3, none⟩ = some (.slice A1_3 l1_3.length c1_3) := (blk_cell BK284.out 3).trans rfl; have hfz9_0 := blk_frozen BK284.out 0; have hfz9_1 := blk_frozen BK284.out 1; have hfz9_2 := blk_frozen BK284.out 2; have hfz9_3 := blk_frozen BK284.out 3) | (go_at_call 59; (with_reducible refine (registrarref04_TextsG.calls _ _ l0_2 _ _ l1_2 t285 _ ?side1 ?side2 ?side3 ?side4 A3.out).mono ?_); (case side1 => repeat (first | exact (Kd.C_below HR0_2.out HB.out) | (with_reducible refine Kd.C_alloc ?_ _) | (with_reducible refine Kd.C_drewN ?_ _) | (with_reducible refine Kd.C_drew ?_))); (case side2 => exact HC0_2.out); (case side3 => repeat (first | exact (Kd.C_below HR1_2.out HB.out) | (with_reducible refine Kd.C_alloc ?_ _) | (with_reducible refine Kd.C_drewN ?_ _) | (with_reducible refine Kd.C_drew ?_))); (case side4 => exact HC1_2.out); rintro e w' ⟨rfl, ⟨nd, rfl⟩⟩; (try first | exact ⟨rfl, _, World.drewN_drewN _ _ _⟩ | exact ⟨rfl, _, Eq.trans (World.drewN_drewN _ _ _) (congrArg (World.drewN _) (Nat.add_assoc _ _ _))⟩)))
  repeat (go_quiet (first | ((with_reducible refine gate_dst (N := 2) rfl ?_); (try (refine gate_guard (by rfl) ?_; dsimp only)); refine box_event ?hg (N := 2) ?hd (cs := #[.string a0_0, .string a0_1, .slice A0_2 l0_2.length c0_2, .slice A0_3 l0_3.length c0_3]) (t := 40) ?hr ?_; (case hd => rfl); (case hg => rfl); (case hr => first | (go_simp; done) | (go_simp; rfl)); intro gb283 hg w5 hbox hb; have n0_ := Aside0.mk (below_step (by repeat (first | (with_reducible first | exact HB.out | apply below_alloc | apply pw_below_drewN | apply below_drew1) | exact HB.out)) hb); have n1_ := Aside0.mk (hbox); have n2_ := Aside0.mk ((by rw [hg]; exact (below_size (by repeat (first | (with_reducible first | exact HB.out | apply below_alloc | apply pw_below_drewN | apply below_drew1) | exact HB.out))) : w.heap.size ≤ gb283)); have n3_ := Aside0.mk ((by rw [hg]; exact (below_size (by repeat (first | (with_reducible first | exact HB.out | apply below_alloc | apply pw_below_drewN | apply below_drew1) | exact HB.out))) : w.heap.size ≤ gb283)); clear HB; have HB := n0_; have BK283 := n1_; have GW283 := n2_; have GE283 := n3_; clear n0_ n1_ n2_ n3_; clear hb hbox hg) | ((with_reducible refine gate_dst (N := 3) rfl ?_); (try (refine gate_guard (by rfl) ?_; dsimp only)); refine box_event ?hg (N := 3) ?hd (cs := #[.string a1_0, .string a1_1, .slice A1_2 l1_2.length c1_2, .slice A1_3 l1_3.length c1_3]) (t := 40) ?hr ?_; (case hd => rfl); (case hg => rfl); (case hr => first | (go_simp; done) | (go_simp; rfl)); intro gb284 hg w6 hbox hb; have n0_ := Aside0.mk (blk_below (g := gb283) (o := .cells #[.string a0_0, .string a0_1, .slice A0_2 l0_2.length c0_2, .slice A0_3 l0_3.length c0_3] 40 (0, 0)) (by (with_reducible repeat (first | refine blk_drewN ?_ _ | refine blk_drew ?_ | refine blk_alloc ?_ _)); exact BK283.out) hb); have n1_ := Aside0.mk (below_step (by repeat (first | (with_reducible first | exact HB.out | apply below_alloc | apply pw_below_drewN | apply below_drew1 | refine below_set ?_ GE283.out) | exact HB.out)) hb); have n2_ := Aside0.mk (hbox); have n3_ := Aside0.mk ((by rw [hg]; exact (below_size (by repeat (first | (with_reducible first | exact HB.out | apply below_alloc | apply pw_below_drewN | apply below_drew1 | refine below_set ?_ GE283.out) | exact HB.out))) : w.heap.size ≤ gb284)); have n4_ := Aside0.mk ((by rw [hg]; exact (below_size (by repeat (first | (with_reducible first | exact HB.out | apply below_alloc | apply pw_below_drewN | apply below_drew1 | refine below_set ?_ GE283.out) | exact HB.out))) : w.heap.size ≤ gb284)); have n5_ := Aside0.mk ((by rw [hg]; exact Nat.ne_of_lt (blk_lt (g := gb283) (o := .cells #[.string a0_0, .string a0_1, .slice A0_2 l0_2.length c0_2, .slice A0_3 l0_3.length c0_3] 40 (0, 0)) (by (with_reducible repeat (first | refine blk_drewN ?_ _ | refine blk_drew ?_ | refine blk_alloc ?_ _)); exact BK283.out)) : gb283 ≠ gb284)); have n6_ := Aside0.mk ((by rw [hg]; exact Nat.ne_of_gt (blk_lt (g := gb283) (o := .cells #[.string a0_0, .string a0_1, .slice A0_2 l0_2.length c0_2, .slice A0_3 l0_3.length c0_3] 40 (0, 0)) (by (with_reducible repeat (first | refine blk_drewN ?_ _ | refine blk_drew ?_ | refine blk_alloc ?_ _)); exact BK283.out)) : gb284 ≠ gb283)); clear BK283; clear HB; have BK283 := n0_; have HB := n1_; have BK284 := n2_; have GW284 := n3_; have GE284 := n4_; have NB283_284 := n5_; have NB284_283 := n6_; clear n0_ n1_ n2_ n3_ n4_ n5_ n6_; clear hb hbox hg; have hnb7 := NB283_284.out; have hnc7 := NB284_283.out; have hcz8_0 : w6.cell? ⟨gb283, 0, none⟩ = some (.string a0_0) := (blk_cell BK283.out 0).trans rfl; have hcz8_1 : w6.cell? ⟨gb283, 1, none⟩ = some (.string a0_1) := (blk_cell BK283.out 1).trans rfl; have hcz8_2 : w6.cell? ⟨gb283, 2, none⟩ = some (.slice A0_2 l0_2.length c0_2) := (blk_cell BK283.out 2).trans rfl; have hcz8_3 : w6.cell? ⟨gb283, 3, none⟩ = some (.slice A0_3 l0_3.length c0_3) := (blk_cell BK283.out 3).trans rfl; have hfz8_0 := blk_frozen BK283.out 0; have hfz8_1 := blk_frozen BK283.out 1; have hfz8_2 := blk_frozen BK283.out 2; have hfz8_3 := blk_frozen BK283.out 3; have hcz9_0 : w6.cell? ⟨gb284, 0, none⟩ = some (.string a1_0) := (blk_cell BK284.out 0).trans rfl; have hcz9_1 : w6.cell? ⟨gb284, 1, none⟩ = some (.string a1_1) := (blk_cell BK284.out 1).trans rfl; have hcz9_2 : w6.cell? ⟨gb284, 2, none⟩ = some (.slice A1_2 l1_2.length c1_2) := (blk_cell BK284.out 2).trans rfl; have hcz9_3 : w6.cell? ⟨gb284, 3, none⟩ = some (.slice A1_3 l1_3.length c1_3) := (blk_cell BK284.out 3).trans rfl; have hfz9_0 := blk_frozen BK284.out 0; have hfz9_1 := blk_frozen BK284.out 1; have hfz9_2 := blk_frozen BK284.out 2; have hfz9_3 := blk_frozen BK284.out 3) | (go_at_call 59; (with_reducible refine (registrarref04_TextsG.calls _ _ l0_2 _ _ l1_2 t285 _ ?side1 ?side2 ?side3 ?side4 A3.out).mono ?_); (case side1 => repeat (first | exact (Kd.C_below HR0_2.out HB.out) | (with_reducible refine Kd.C_alloc ?_ _) | (with_reducible refine Kd.C_drewN ?_ _) | (with_reducible refine Kd.C_drew ?_))); (case side2 => exact HC0_2.out); (case side3 => repeat (first | exact (Kd.C_below HR1_2.out HB.out) | (with_reducible refine Kd.C_alloc ?_ _) | (with_reducible refine Kd.C_drewN ?_ _) | (with_reducible refine Kd.C_drew ?_))); (case side4 => exact HC1_2.out); rintro e w' ⟨rfl, ⟨nd, rfl⟩⟩; (try first | exact ⟨rfl, _, World.drewN_drewN _ _ _⟩ | exact ⟨rfl, _, Eq.trans (World.drewN_drewN _ _ _) (congrArg (World.drewN _) (Nat.add_assoc _ _ _))⟩))); go_upto_region 2 with (first | ((with_reducible refine gate_dst (N := 2) rfl ?_); (try (refine gate_guard (by rfl) ?_; dsimp only)); refine box_event ?hg (N := 2) ?hd (cs := #[.string a0_0, .string a0_1, .slice A0_2 l0_2.length c0_2, .slice A0_3 l0_3.length c0_3]) (t := 40) ?hr ?_; (case hd => rfl); (case hg => rfl); (case hr => first | (go_simp; done) | (go_simp; rfl)); intro gb283 hg w5 hbox hb; have n0_ := Aside0.mk (below_step (by repeat (first | (with_reducible first | exact HB.out | apply below_alloc | apply pw_below_drewN | apply below_drew1) | exact HB.out)) hb); have n1_ := Aside0.mk (hbox); have n2_ := Aside0.mk ((by rw [hg]; exact (below_size (by repeat (first | (with_reducible first | exact HB.out | apply below_alloc | apply pw_below_drewN | apply below_drew1) | exact HB.out))) : w.heap.size ≤ gb283)); have n3_ := Aside0.mk ((by rw [hg]; exact (below_size (by repeat (first | (with_reducible first | exact HB.out | apply below_alloc | apply pw_below_drewN | apply below_drew1) | exact HB.out))) : w.heap.size ≤ gb283)); clear HB; have HB := n0_; have BK283 := n1_; have GW283 := n2_; have GE283 := n3_; clear n0_ n1_ n2_ n3_; clear hb hbox hg) | ((with_reducible refine gate_dst (N := 3) rfl ?_); (try (refine gate_guard (by rfl) ?_; dsimp only)); refine box_event ?hg (N := 3) ?hd (cs := #[.string a1_0, .string a1_1, .slice A1_2 l1_2.length c1_2, .slice A1_3 l1_3.length c1_3]) (t := 40) ?hr ?_; (case hd => rfl); (case hg => rfl); (case hr => first | (go_simp; done) | (go_simp; rfl)); intro gb284 hg w6 hbox hb; have n0_ := Aside0.mk (blk_below (g := gb283) (o := .cells #[.string a0_0, .string a0_1, .slice A0_2 l0_2.length c0_2, .slice A0_3 l0_3.length c0_3] 40 (0, 0)) (by (with_reducible repeat (first | refine blk_drewN ?_ _ | refine blk_drew ?_ | refine blk_alloc ?_ _)); exact BK283.out) hb); have n1_ := Aside0.mk (below_step (by repeat (first | (with_reducible first | exact HB.out | apply below_alloc | apply pw_below_drewN | apply below_drew1 | refine below_set ?_ GE283.out) | exact HB.out)) hb); have n2_ := Aside0.mk (hbox); have n3_ := Aside0.mk ((by rw [hg]; exact (below_size (by repeat (first | (with_reducible first | exact HB.out | apply below_alloc | apply pw_below_drewN | apply below_drew1 | refine below_set ?_ GE283.out) | exact HB.out))) : w.heap.size ≤ gb284)); have n4_ := Aside0.mk ((by rw [hg]; exact (below_size (by repeat (first | (with_reducible first | exact HB.out | apply below_alloc | apply pw_below_drewN | apply below_drew1 | refine below_set ?_ GE283.out) | exact HB.out))) : w.heap.size ≤ gb284)); have n5_ := Aside0.mk ((by rw [hg]; exact Nat.ne_of_lt (blk_lt (g := gb283) (o := .cells #[.string a0_0, .string a0_1, .slice A0_2 l0_2.length c0_2, .slice A0_3 l0_3.length c0_3] 40 (0, 0)) (by (with_reducible repeat (first | refine blk_drewN ?_ _ | refine blk_drew ?_ | refine blk_alloc ?_ _)); exact BK283.out)) : gb283 ≠ gb284)); have n6_ := Aside0.mk ((by rw [hg]; exact Nat.ne_of_gt (blk_lt (g := gb283) (o := .cells #[.string a0_0, .string a0_1, .slice A0_2 l0_2.length c0_2, .slice A0_3 l0_3.length c0_3] 40 (0, 0)) (by (with_reducible repeat (first | refine blk_drewN ?_ _ | refine blk_drew ?_ | refine blk_alloc ?_ _)); exact BK283.out)) : gb284 ≠ gb283)); clear BK283; clear HB; have BK283 := n0_; have HB := n1_; have BK284 := n2_; have GW284 := n3_; have GE284 := n4_; have NB283_284 := n5_; have NB284_283 := n6_; clear n0_ n1_ n2_ n3_ n4_ n5_ n6_; clear hb hbox hg; have hnb7 := NB283_284.out; have hnc7 := NB284_283.out; have hcz8_0 : w6.cell? ⟨gb283, 0, none⟩ = some (.string a0_0) := (blk_cell BK283.out 0).trans rfl; have hcz8_1 : w6.cell? ⟨gb283, 1, none⟩ = some (.string a0_1) := (blk_cell BK283.out 1).trans rfl; have hcz8_2 : w6.cell? ⟨gb283, 2, none⟩ = some (.slice A0_2 l0_2.length c0_2) := (blk_cell BK283.out 2).trans rfl; have hcz8_3 : w6.cell? ⟨gb283, 3, none⟩ = some (.slice A0_3 l0_3.length c0_3) := (blk_cell BK283.out 3).trans rfl; have hfz8_0 := blk_frozen BK283.out 0; have hfz8_1 := blk_frozen BK283.out 1; have hfz8_2 := blk_frozen BK283.out 2; have hfz8_3 := blk_frozen BK283.out 3; have hcz9_0 : w6.cell? ⟨gb284, 0, none⟩ = some (.string a1_0) := (blk_cell BK284.out 0).trans rfl; have hcz9_1 : w6.cell? ⟨gb284, 1, none⟩ = some (.string a1_1) := (blk_cell BK284.out 1).trans rfl; have hcz9_2 : w6.cell? ⟨gb284, 2, none⟩ = some (.slice A1_2 l1_2.length c1_2) := (blk_cell BK284.out 2).trans rfl; have hcz9_3 : w6.cell? ⟨gb284, 3, none⟩ = some (.slice A1_3 l1_3.length c1_3) := (blk_cell BK284.out 3).trans rfl; have hfz9_0 := blk_frozen BK284.out 0; have hfz9_1 := blk_frozen BK284.out 1; have hfz9_2 := blk_frozen BK284.out 2; have hfz9_3 := blk_frozen BK284.out 3) | (go_at_call 59; (with_reducible refine (registrarref04_TextsG.calls _ _ l0_2 _ _ l1_2 t285 _ ?side1 ?side2 ?side3 ?side4 A3.out).mono ?_); (case side1 => repeat (first | exact (Kd.C_below HR0_2.out HB.out) | (with_reducible refine Kd.C_alloc ?_ _) | (with_reducible refine Kd.C_drewN ?_ _) | (with_reducible refine Kd.C_drew ?_))); (case side2 => exact HC0_2.out); (case side3 => repeat (first | exact (Kd.C_below HR1_2.out HB.out) | (with_reducible refine Kd.C_alloc ?_ _) | (with_reducible refine Kd.C_drewN ?_ _) | (with_reducible refine Kd.C_drew ?_))); (case side4 => exact HC1_2.out); rintro e w' ⟨rfl, ⟨nd, rfl⟩⟩; (try first | exact ⟨rfl, _, World.drewN_drewN _ _ _⟩ | exact ⟨rfl, _, Eq.trans (World.drewN_drewN _ _ _) (congrArg (World.drewN _) (Nat.add_assoc _ _ _))⟩))))
  (try simp only [Act.put, List.setIfInBounds_toArray, List.set_cons_zero, List.set_cons_succ])
  go_cut [36] (fun v36 wc => ∃ (kq : Nat) (x36_3 : Bool), v36 = .bool x36_3 ∧ Aside0 (registrarref04_Same.j0 kq x36_3 a0_0 a0_1 l0_2 l0_3 a1_0 a1_1 l1_2 l1_3 = some r) ∧ Aside0 (kq ≤ k) ∧ Aside0 (wc.heap[gb283]? = some (.cells #[.string a0_0, .string a0_1, (.slice A0_2 l0_2.length c0_2), (.slice A0_3 l0_3.length c0_3)] 40 (0, 0))) ∧ Aside0 (wc.heap[gb284]? = some (.cells #[.string a1_0, .string a1_1, (.slice A1_2 l1_2.length c1_2), (.slice A1_3 l1_3.length c1_3)] 40 (0, 0))) ∧ Aside0 (Below w.heap.size w wc))
  case first =>
    have H := HC4.out
    clear HC4
    by_cases c10 : a0_0.toList = a1_0.toList
    · rw [if_pos c10] at H
      have c10b0 : (a0_0.toList == a1_0.toList) = true := beq_iff_eq.mpr c10
      have c10b1 : (a0_0.toList != a1_0.toList) = false := bne_eq_false_iff_eq.mpr c10
      clear c10
      (first | rw [c10b0] | (simp only [i64_w, i32_w]; rw [c10b0]) | skip)
      by_cases c11 : a0_1.toList = a1_1.toList
      · rw [if_pos c11] at H
        have c11b0 : (a0_1.toList == a1_1.toList) = true := beq_iff_eq.mpr c11
        have c11b1 : (a0_1.toList != a1_1.toList) = false := bne_eq_false_iff_eq.mpr c11
        clear c11
        by_cases c12 : t285 = true
        · subst c12
          have H1 : (registrarref04_Same.j0 k ((l0_3.length : Int) != (l1_3.length : Int)) a0_0 a0_1 l0_2 l0_3 a1_0 a1_1 l1_2 l1_3) = some r := by rw [if_pos rfl] at H; exact H
          clear H
          have H := H1
          clear H1
          have H' := Aside0.mk H
          clear H
          have hnb13 := NB283_284.out
          have hnc13 := NB284_283.out
          have hcz14_0 : w6.cell? ⟨gb283, 0, none⟩ = some (.string a0_0) := (blk_cell BK283.out 0).trans rfl
          have hcz14_1 : w6.cell? ⟨gb283, 1, none⟩ = some (.string a0_1) := (blk_cell BK283.out 1).trans rfl
          have hcz14_2 : w6.cell? ⟨gb283, 2, none⟩ = some (.slice A0_2 l0_2.length c0_2) := (blk_cell BK283.out 2).trans rfl
          have hcz14_3 : w6.cell? ⟨gb283, 3, none⟩ = some (.slice A0_3 l0_3.length c0_3) := (blk_cell BK283.out 3).trans rfl
          have hfz14_0 := blk_frozen BK283.out 0
          have hfz14_1 := blk_frozen BK283.out 1
          have hfz14_2 := blk_frozen BK283.out 2
          have hfz14_3 := blk_frozen BK283.out 3
          have hcz15_0 : w6.cell? ⟨gb284, 0, none⟩ = some (.string a1_0) := (blk_cell BK284.out 0).trans rfl
          have hcz15_1 : w6.cell? ⟨gb284, 1, none⟩ = some (.string a1_1) := (blk_cell BK284.out 1).trans rfl
          have hcz15_2 : w6.cell? ⟨gb284, 2, none⟩ = some (.slice A1_2 l1_2.length c1_2) := (blk_cell BK284.out 2).trans rfl
          have hcz15_3 : w6.cell? ⟨gb284, 3, none⟩ = some (.slice A1_3 l1_3.length c1_3) := (blk_cell BK284.out 3).trans rfl
          have hfz15_0 := blk_frozen BK284.out 0
          have hfz15_1 := blk_frozen BK284.out 1
          have hfz15_2 := blk_frozen BK284.out 2
          have hfz15_3 := blk_frozen BK284.out 3
          go_wp2
          repeat (go_quiet (fail); try go_wp2)
          go_meet
          case rel => exact ⟨_, (((l0_3.length : Int) != (l1_3.length : Int))), (by first | rfl | (simp; done) | (simp [*]; done)), H', ⟨by first | omega | exact Nat.le_refl _⟩, ⟨by (with_reducible repeat (first | refine blk_drewN ?_ _ | refine blk_drew ?_ | refine blk_alloc ?_ _)); exact BK283.out⟩, ⟨by (with_reducible repeat (first | refine blk_drewN ?_ _ | refine blk_drew ?_ | refine blk_alloc ?_ _)); exact BK284.out⟩, ⟨by repeat (first | (with_reducible first | exact HB.out | apply below_alloc | apply pw_below_drewN | apply below_drew1 | refine below_set ?_ GE283.out | refine below_set ?_ GE284.out) | exact HB.out)⟩⟩
        · replace c12 := Bool.eq_false_iff.mpr c12
          subst c12
          have H1 : (registrarref04_Same.j0 k true a0_0 a0_1 l0_2 l0_3 a1_0 a1_1 l1_2 l1_3) = some r := by rw [if_neg (show ¬ (false = true) by decide)] at H; exact H
          clear H
          have H := H1
          clear H1
          have H' := Aside0.mk H
          clear H
          have hnb16 := NB283_284.out
          have hnc16 := NB284_283.out
          have hcz17_0 : w6.cell? ⟨gb283, 0, none⟩ = some (.string a0_0) := (blk_cell BK283.out 0).trans rfl
          have hcz17_1 : w6.cell? ⟨gb283, 1, none⟩ = some (.string a0_1) := (blk_cell BK283.out 1).trans rfl
          have hcz17_2 : w6.cell? ⟨gb283, 2, none⟩ = some (.slice A0_2 l0_2.length c0_2) := (blk_cell BK283.out 2).trans rfl
          have hcz17_3 : w6.cell? ⟨gb283, 3, none⟩ = some (.slice A0_3 l0_3.length c0_3) := (blk_cell BK283.out 3).trans rfl
          have hfz17_0 := blk_frozen BK283.out 0
          have hfz17_1 := blk_frozen BK283.out 1
          have hfz17_2 := blk_frozen BK283.out 2
          have hfz17_3 := blk_frozen BK283.out 3
          have hcz18_0 : w6.cell? ⟨gb284, 0, none⟩ = some (.string a1_0) := (blk_cell BK284.out 0).trans rfl
          have hcz18_1 : w6.cell? ⟨gb284, 1, none⟩ = some (.string a1_1) := (blk_cell BK284.out 1).trans rfl
          have hcz18_2 : w6.cell? ⟨gb284, 2, none⟩ = some (.slice A1_2 l1_2.length c1_2) := (blk_cell BK284.out 2).trans rfl
          have hcz18_3 : w6.cell? ⟨gb284, 3, none⟩ = some (.slice A1_3 l1_3.length c1_3) := (blk_cell BK284.out 3).trans rfl
          have hfz18_0 := blk_frozen BK284.out 0
          have hfz18_1 := blk_frozen BK284.out 1
          have hfz18_2 := blk_frozen BK284.out 2
          have hfz18_3 := blk_frozen BK284.out 3
          go_wp2
          repeat (go_quiet (fail); try go_wp2)
          go_meet
          case rel => exact ⟨_, (true), (by first | rfl | (simp; done) | (simp [*]; done)), H', ⟨by first | omega | exact Nat.le_refl _⟩, ⟨by (with_reducible repeat (first | refine blk_drewN ?_ _ | refine blk_drew ?_ | refine blk_alloc ?_ _)); exact BK283.out⟩, ⟨by (with_reducible repeat (first | refine blk_drewN ?_ _ | refine blk_drew ?_ | refine blk_alloc ?_ _)); exact BK284.out⟩, ⟨by repeat (first | (with_reducible first | exact HB.out | apply below_alloc | apply pw_below_drewN | apply below_drew1 | refine below_set ?_ GE283.out | refine below_set ?_ GE284.out) | exact HB.out)⟩⟩
      · rw [if_neg c11] at H
        have c11b0 : (a0_1.toList == a1_1.toList) = false := beq_eq_false_iff_ne.mpr c11
        have c11b1 : (a0_1.toList != a1_1.toList) = true := bne_iff_ne.mpr c11
        have H' := Aside0.mk H
        clear H
        have hnb19 := NB283_284.out
        have hnc19 := NB284_283.out
        have hcz20_0 : w6.cell? ⟨gb283, 0, none⟩ = some (.string a0_0) := (blk_cell BK283.out 0).trans rfl
        have hcz20_1 : w6.cell? ⟨gb283, 1, none⟩ = some (.string a0_1) := (blk_cell BK283.out 1).trans rfl
        have hcz20_2 : w6.cell? ⟨gb283, 2, none⟩ = some (.slice A0_2 l0_2.length c0_2) := (blk_cell BK283.out 2).trans rfl
        have hcz20_3 : w6.cell? ⟨gb283, 3, none⟩ = some (.slice A0_3 l0_3.length c0_3) := (blk_cell BK283.out 3).trans rfl
        have hfz20_0 := blk_frozen BK283.out 0
        have hfz20_1 := blk_frozen BK283.out 1
        have hfz20_2 := blk_frozen BK283.out 2
        have hfz20_3 := blk_frozen BK283.out 3
        have hcz21_0 : w6.cell? ⟨gb284, 0, none⟩ = some (.string a1_0) := (blk_cell BK284.out 0).trans rfl
        have hcz21_1 : w6.cell? ⟨gb284, 1, none⟩ = some (.string a1_1) := (blk_cell BK284.out 1).trans rfl
        have hcz21_2 : w6.cell? ⟨gb284, 2, none⟩ = some (.slice A1_2 l1_2.length c1_2) := (blk_cell BK284.out 2).trans rfl
        have hcz21_3 : w6.cell? ⟨gb284, 3, none⟩ = some (.slice A1_3 l1_3.length c1_3) := (blk_cell BK284.out 3).trans rfl
        have hfz21_0 := blk_frozen BK284.out 0
        have hfz21_1 := blk_frozen BK284.out 1
        have hfz21_2 := blk_frozen BK284.out 2
        have hfz21_3 := blk_frozen BK284.out 3
        go_wp2
        repeat (go_quiet (fail); try go_wp2)
        go_meet
        case rel => exact ⟨_, (true), (by first | rfl | (simp; done) | (simp [*]; done)), H', ⟨by first | omega | exact Nat.le_refl _⟩, ⟨by (with_reducible repeat (first | refine blk_drewN ?_ _ | refine blk_drew ?_ | refine blk_alloc ?_ _)); exact BK283.out⟩, ⟨by (with_reducible repeat (first | refine blk_drewN ?_ _ | refine blk_drew ?_ | refine blk_alloc ?_ _)); exact BK284.out⟩, ⟨by repeat (first | (with_reducible first | exact HB.out | apply below_alloc | apply pw_below_drewN | apply below_drew1 | refine below_set ?_ GE283.out | refine below_set ?_ GE284.out) | exact HB.out)⟩⟩
    · rw [if_neg c10] at H
      have c10b0 : (a0_0.toList == a1_0.toList) = false := beq_eq_false_iff_ne.mpr c10
      have c10b1 : (a0_0.toList != a1_0.toList) = true := bne_iff_ne.mpr c10
      (first | rw [c10b0] | (simp only [i64_w, i32_w]; rw [c10b0]) | skip)
      have H' := Aside0.mk H
      clear H
      have hnb22 := NB283_284.out
      have hnc22 := NB284_283.out
      have hcz23_0 : w6.cell? ⟨gb283, 0, none⟩ = some (.string a0_0) := (blk_cell BK283.out 0).trans rfl
      have hcz23_1 : w6.cell? ⟨gb283, 1, none⟩ = some (.string a0_1) := (blk_cell BK283.out 1).trans rfl
      have hcz23_2 : w6.cell? ⟨gb283, 2, none⟩ = some (.slice A0_2 l0_2.length c0_2) := (blk_cell BK283.out 2).trans rfl
      have hcz23_3 : w6.cell? ⟨gb283, 3, none⟩ = some (.slice A0_3 l0_3.length c0_3) := (blk_cell BK283.out 3).trans rfl
      have hfz23_0 := blk_frozen BK283.out 0
      have hfz23_1 := blk_frozen BK283.out 1
      have hfz23_2 := blk_frozen BK283.out 2
      have hfz23_3 := blk_frozen BK283.out 3
      have hcz24_0 : w6.cell? ⟨gb284, 0, none⟩ = some (.string a1_0) := (blk_cell BK284.out 0).trans rfl
      have hcz24_1 : w6.cell? ⟨gb284, 1, none⟩ = some (.string a1_1) := (blk_cell BK284.out 1).trans rfl
      have hcz24_2 : w6.cell? ⟨gb284, 2, none⟩ = some (.slice A1_2 l1_2.length c1_2) := (blk_cell BK284.out 2).trans rfl
      have hcz24_3 : w6.cell? ⟨gb284, 3, none⟩ = some (.slice A1_3 l1_3.length c1_3) := (blk_cell BK284.out 3).trans rfl
      have hfz24_0 := blk_frozen BK284.out 0
      have hfz24_1 := blk_frozen BK284.out 1
      have hfz24_2 := blk_frozen BK284.out 2
      have hfz24_3 := blk_frozen BK284.out 3
      go_wp2
      repeat (go_quiet (fail); try go_wp2)
      go_meet
      case rel => exact ⟨_, (true), (by first | rfl | (simp; done) | (simp [*]; done)), H', ⟨by first | omega | exact Nat.le_refl _⟩, ⟨by (with_reducible repeat (first | refine blk_drewN ?_ _ | refine blk_drew ?_ | refine blk_alloc ?_ _)); exact BK283.out⟩, ⟨by (with_reducible repeat (first | refine blk_drewN ?_ _ | refine blk_drew ?_ | refine blk_alloc ?_ _)); exact BK284.out⟩, ⟨by repeat (first | (with_reducible first | exact HB.out | apply below_alloc | apply pw_below_drewN | apply below_drew1 | refine below_set ?_ GE283.out | refine below_set ?_ GE284.out) | exact HB.out)⟩⟩
  case rest =>
    clear HC4
    try clear c1
    try clear c2
    try clear p2
    try clear c4
    try clear c7
    try clear c10
    try clear c10b0
    try clear c10b1
    try clear c11
    try clear c11b0
    try clear c11b1
    try clear c12
    try clear c13
    try clear c16
    try clear c19
    try clear c22
    try clear hcz14_0
    try clear hcz14_1
    try clear hcz14_2
    try clear hcz14_3
    try clear hcz15_0
    try clear hcz15_1
    try clear hcz15_2
    try clear hcz15_3
    try clear hcz17_0
    try clear hcz17_1
    try clear hcz17_2
    try clear hcz17_3
    try clear hcz18_0
    try clear hcz18_1
    try clear hcz18_2
    try clear hcz18_3
    try clear hcz20_0
    try clear hcz20_1
    try clear hcz20_2
    try clear hcz20_3
    try clear hcz21_0
    try clear hcz21_1
    try clear hcz21_2
    try clear hcz21_3
    try clear hcz23_0
    try clear hcz23_1
    try clear hcz23_2
    try clear hcz23_3
    try clear hcz24_0
    try clear hcz24_1
    try clear hcz24_2
    try clear hcz24_3
    try clear hcz8_0
    try clear hcz8_1
    try clear hcz8_2
    try clear hcz8_3
    try clear hcz9_0
    try clear hcz9_1
    try clear hcz9_2
    try clear hcz9_3
    try clear hfz14_0
    try clear hfz14_1
    try clear hfz14_2
    try clear hfz14_3
    try clear hfz15_0
    try clear hfz15_1
    try clear hfz15_2
    try clear hfz15_3
    try clear hfz17_0
    try clear hfz17_1
    try clear hfz17_2
    try clear hfz17_3
    try clear hfz18_0
    try clear hfz18_1
    try clear hfz18_2
    try clear hfz18_3
    try clear hfz20_0
    try clear hfz20_1
    try clear hfz20_2
    try clear hfz20_3
    try clear hfz21_0
    try clear hfz21_1
    try clear hfz21_2
    try clear hfz21_3
    try clear hfz23_0
    try clear hfz23_1
    try clear hfz23_2
    try clear hfz23_3
    try clear hfz24_0
    try clear hfz24_1
    try clear hfz24_2
    try clear hfz24_3
    try clear hfz8_0
    try clear hfz8_1
    try clear hfz8_2
    try clear hfz8_3
    try clear hfz9_0
    try clear hfz9_1
    try clear hfz9_2
    try clear hfz9_3
    obtain ⟨kq, x36_3, rfl, HA, HJ3, BK283, BK284, HB⟩ := hcut
    cases kq with
    | zero => exact absurd HA.out (by simp [registrarref04_Same.j0])
    | succ kj3 =>
      have H := HA.out
      clear HA
      simp only [registrarref04_Same.j0] at H
      by_cases c25 : x36_3 = true
      · subst c25
        have H1 : (some false) = some r := by rw [if_pos rfl] at H; exact H
        clear H
        have H := H1
        clear H1
        obtain rfl := Option.some.inj H
        go_wp2
        repeat (go_quiet (fail); try go_wp2)
        go_ret
        exact ⟨by first | rfl | (simp [errW_none, errW_some] <;> rfl) | (simp [*, errW_none, errW_some] <;> rfl), by repeat (first | (with_reducible first | exact HB.out | apply below_alloc | apply pw_below_drewN | apply below_drew1 | refine below_set ?_ GE283.out | refine below_set ?_ GE284.out) | exact HB.out)⟩
      · replace c25 := Bool.eq_false_iff.mpr c25
        subst c25
        have H1 : (registrarref04_Same.l0 kj3 0 a0_0 a0_1 l0_2 l0_3 a1_0 a1_1 l1_2 l1_3) = some r := by rw [if_neg (show ¬ (false = true) by decide)] at H; exact H
        clear H
        have H := H1
        clear H1
        have H' := Aside0.mk H
        clear H
        go_wp2
        repeat (go_quiet (fail); try go_wp2)
        go_loopg [6] kj3 (fun kq v6 w' => ∃ (x6_2 : Int), v6 = .int .i64 x6_2 ∧ Aside0 (registrarref04_Same.l0 kq x6_2 a0_0 a0_1 l0_2 l0_3 a1_0 a1_1 l1_2 l1_3 = some r) ∧ Aside0 (kq ≤ kj3) ∧ Aside0 (w'.heap[gb283]? = some (.cells #[.string a0_0, .string a0_1, (.slice A0_2 l0_2.length c0_2), (.slice A0_3 l0_3.length c0_3)] 40 (0, 0))) ∧ Aside0 (w'.heap[gb284]? = some (.cells #[.string a1_0, .string a1_1, (.slice A1_2 l1_2.length c1_2), (.slice A1_3 l1_3.length c1_3)] 40 (0, 0))) ∧ Aside0 (Below w.heap.size w w'))
        case atStart => exact ⟨(0), (by first | rfl | (simp; done) | (simp [*]; done)), H', ⟨Nat.le_refl _⟩, ⟨by (with_reducible repeat (first | refine blk_drewN ?_ _ | refine blk_drew ?_ | refine blk_alloc ?_ _)); exact BK283.out⟩, ⟨by (with_reducible repeat (first | refine blk_drewN ?_ _ | refine blk_drew ?_ | refine blk_alloc ?_ _)); exact BK284.out⟩, ⟨by repeat (first | (with_reducible first | exact HB.out | apply below_alloc | apply pw_below_drewN | apply below_drew1 | refine below_set ?_ GE283.out | refine below_set ?_ GE284.out) | exact HB.out)⟩⟩
        case round =>
          clear H'
          try clear c1
          try clear c2
          try clear p2
          try clear c4
          try clear c7
          try clear c10
          try clear c10b0
          try clear c10b1
          try clear c11
          try clear c11b0
          try clear c11b1
          try clear c12
          try clear c13
          try clear c16
          try clear c19
          try clear c22
          try clear c25
          try clear hcz14_0
          try clear hcz14_1
          try clear hcz14_2
          try clear hcz14_3
          try clear hcz15_0
          try clear hcz15_1
          try clear hcz15_2
          try clear hcz15_3
          try clear hcz17_0
          try clear hcz17_1
          try clear hcz17_2
          try clear hcz17_3
          try clear hcz18_0
          try clear hcz18_1
          try clear hcz18_2
          try clear hcz18_3
          try clear hcz20_0
          try clear hcz20_1
          try clear hcz20_2
          try clear hcz20_3
          try clear hcz21_0
          try clear hcz21_1
          try clear hcz21_2
          try clear hcz21_3
          try clear hcz23_0
          try clear hcz23_1
          try clear hcz23_2
          try clear hcz23_3
          try clear hcz24_0
          try clear hcz24_1
          try clear hcz24_2
          try clear hcz24_3
          try clear hcz8_0
          try clear hcz8_1
          try clear hcz8_2
          try clear hcz8_3
          try clear hcz9_0
          try clear hcz9_1
          try clear hcz9_2
          try clear hcz9_3
          try clear hfz14_0
          try clear hfz14_1
          try clear hfz14_2
          try clear hfz14_3
          try clear hfz15_0
          try clear hfz15_1
          try clear hfz15_2
          try clear hfz15_3
          try clear hfz17_0
          try clear hfz17_1
          try clear hfz17_2
          try clear hfz17_3
          try clear hfz18_0
          try clear hfz18_1
          try clear hfz18_2
          try clear hfz18_3
          try clear hfz20_0
          try clear hfz20_1
          try clear hfz20_2
          try clear hfz20_3
          try clear hfz21_0
          try clear hfz21_1
          try clear hfz21_2
          try clear hfz21_3
          try clear hfz23_0
          try clear hfz23_1
          try clear hfz23_2
          try clear hfz23_3
          try clear hfz24_0
          try clear hfz24_1
          try clear hfz24_2
          try clear hfz24_3
          try clear hfz8_0
          try clear hfz8_1
          try clear hfz8_2
          try clear hfz8_3
          try clear hfz9_0
          try clear hfz9_1
          try clear hfz9_2
          try clear hfz9_3
          try clear p2
          obtain ⟨x6_2, rfl, HA, HK2, BK283, BK284, HB⟩ := hrel
          cases gk with
          | zero => exact absurd HA.out (by simp [registrarref04_Same.l0])
          | succ k2 =>
            have H := HA.out
            clear HA
            simp only [registrarref04_Same.l0] at H
            by_cases c26 : x6_2 < (l0_3.length : Int)
            · rw [if_pos c26] at H
              have c26b0 : decide (x6_2 < (l0_3.length : Int)) = true := decide_eq_true c26
              clear c26
              by_cases c27 : 0 ≤ x6_2
              · rw [if_pos c27] at H
                have c27b0 : decide (0 ≤ x6_2) = true := decide_eq_true c27
                clear c27
                by_cases c28 : x6_2 < (l1_3.length : Int)
                · rw [if_pos c28] at H
                  have c28b0 : decide (x6_2 < (l1_3.length : Int)) = true := decide_eq_true c28
                  clear c28
                  by_cases c29 : (!((((rd_T50 l0_3 x6_2).f0).toList) == (((rd_T50 l1_3 x6_2).f0).toList)) || (!(((rd_T50 l0_3 x6_2).f1) == ((rd_T50 l1_3 x6_2).f1)))) = true
                  · rw [if_pos c29] at H
                    have c29b0 : (!((((rd_T50 l0_3 x6_2).f0).toList) == (((rd_T50 l1_3 x6_2).f0).toList)) || (!(((rd_T50 l0_3 x6_2).f1) == ((rd_T50 l1_3 x6_2).f1)))) = true := c29
                    clear c29
                    obtain rfl := Option.some.inj H
                    have hnb30 := NB283_284.out
                    have hnc30 := NB284_283.out
                    have hcz31_0 : wr.cell? ⟨gb283, 0, none⟩ = some (.string a0_0) := (blk_cell BK283.out 0).trans rfl
                    have hcz31_1 : wr.cell? ⟨gb283, 1, none⟩ = some (.string a0_1) := (blk_cell BK283.out 1).trans rfl
                    have hcz31_2 : wr.cell? ⟨gb283, 2, none⟩ = some (.slice A0_2 l0_2.length c0_2) := (blk_cell BK283.out 2).trans rfl
                    have hcz31_3 : wr.cell? ⟨gb283, 3, none⟩ = some (.slice A0_3 l0_3.length c0_3) := (blk_cell BK283.out 3).trans rfl
                    have hfz31_0 := blk_frozen BK283.out 0
                    have hfz31_1 := blk_frozen BK283.out 1
                    have hfz31_2 := blk_frozen BK283.out 2
                    have hfz31_3 := blk_frozen BK283.out 3
                    have p286 : 0 ≤ (x6_2 : Int) := of_decide_eq_true (by first | (with_reducible assumption) | assumption)
                    have q286 : x6_2 < (l0_3.length : Int) := of_decide_eq_true (by first | (with_reducible assumption) | assumption)
                    obtain ⟨ad286, e286, hx286_0, hx286_1⟩ := at_T50 HR0_3.out x6_2 p286 q286
                    cases e286
                    replace hx286_0 := (HB.out.cell (World.block_lt_of_cell? w _ hx286_0)).trans hx286_0
                    replace hx286_1 := (HB.out.cell (World.block_lt_of_cell? w _ hx286_1)).trans hx286_1
                    replace p286 := eq_true p286
                    replace q286 := eq_true q286
                    have hcz32_0 : wr.cell? ⟨gb284, 0, none⟩ = some (.string a1_0) := (blk_cell BK284.out 0).trans rfl
                    have hcz32_1 : wr.cell? ⟨gb284, 1, none⟩ = some (.string a1_1) := (blk_cell BK284.out 1).trans rfl
                    have hcz32_2 : wr.cell? ⟨gb284, 2, none⟩ = some (.slice A1_2 l1_2.length c1_2) := (blk_cell BK284.out 2).trans rfl
                    have hcz32_3 : wr.cell? ⟨gb284, 3, none⟩ = some (.slice A1_3 l1_3.length c1_3) := (blk_cell BK284.out 3).trans rfl
                    have hfz32_0 := blk_frozen BK284.out 0
                    have hfz32_1 := blk_frozen BK284.out 1
                    have hfz32_2 := blk_frozen BK284.out 2
                    have hfz32_3 := blk_frozen BK284.out 3
                    have p287 : 0 ≤ (x6_2 : Int) := of_decide_eq_true (by first | (with_reducible assumption) | assumption)
                    have q287 : x6_2 < (l1_3.length : Int) := of_decide_eq_true (by first | (with_reducible assumption) | assumption)
                    obtain ⟨ad287, e287, hx287_0, hx287_1⟩ := at_T50 HR1_3.out x6_2 p287 q287
                    cases e287
                    replace hx287_0 := (HB.out.cell (World.block_lt_of_cell? w _ hx287_0)).trans hx287_0
                    replace hx287_1 := (HB.out.cell (World.block_lt_of_cell? w _ hx287_1)).trans hx287_1
                    replace p287 := eq_true p287
                    replace q287 := eq_true q287
                    go_wp2
                    repeat (go_quiet (fail); try go_wp2)
                    go_ret
                    exact ⟨by first | rfl | (simp [errW_none, errW_some] <;> rfl) | (simp [*, errW_none, errW_some] <;> rfl), by repeat (first | (with_reducible first | exact HB.out | apply below_alloc | apply pw_below_drewN | apply below_drew1 | refine below_set ?_ GE283.out | refine below_set ?_ GE284.out) | exact HB.out)⟩
                  · rw [if_neg c29] at H
                    have c29b0 : (!((((rd_T50 l0_3 x6_2).f0).toList) == (((rd_T50 l1_3 x6_2).f0).toList)) || (!(((rd_T50 l0_3 x6_2).f1) == ((rd_T50 l1_3 x6_2).f1)))) = false := by simpa using c29
                    clear c29
                    have H' := Aside0.mk H
                    clear H
                    have hnb33 := NB283_284.out
                    have hnc33 := NB284_283.out
                    have hcz34_0 : wr.cell? ⟨gb283, 0, none⟩ = some (.string a0_0) := (blk_cell BK283.out 0).trans rfl
                    have hcz34_1 : wr.cell? ⟨gb283, 1, none⟩ = some (.string a0_1) := (blk_cell BK283.out 1).trans rfl
                    have hcz34_2 : wr.cell? ⟨gb283, 2, none⟩ = some (.slice A0_2 l0_2.length c0_2) := (blk_cell BK283.out 2).trans rfl
                    have hcz34_3 : wr.cell? ⟨gb283, 3, none⟩ = some (.slice A0_3 l0_3.length c0_3) := (blk_cell BK283.out 3).trans rfl
                    have hfz34_0 := blk_frozen BK283.out 0
                    have hfz34_1 := blk_frozen BK283.out 1
                    have hfz34_2 := blk_frozen BK283.out 2
                    have hfz34_3 := blk_frozen BK283.out 3
                    have p286 : 0 ≤ (x6_2 : Int) := of_decide_eq_true (by first | (with_reducible assumption) | assumption)
                    have q286 : x6_2 < (l0_3.length : Int) := of_decide_eq_true (by first | (with_reducible assumption) | assumption)
                    obtain ⟨ad286, e286, hx286_0, hx286_1⟩ := at_T50 HR0_3.out x6_2 p286 q286
                    cases e286
                    replace hx286_0 := (HB.out.cell (World.block_lt_of_cell? w _ hx286_0)).trans hx286_0
                    replace hx286_1 := (HB.out.cell (World.block_lt_of_cell? w _ hx286_1)).trans hx286_1
                    replace p286 := eq_true p286
                    replace q286 := eq_true q286
                    have hcz35_0 : wr.cell? ⟨gb284, 0, none⟩ = some (.string a1_0) := (blk_cell BK284.out 0).trans rfl
                    have hcz35_1 : wr.cell? ⟨gb284, 1, none⟩ = some (.string a1_1) := (blk_cell BK284.out 1).trans rfl
                    have hcz35_2 : wr.cell? ⟨gb284, 2, none⟩ = some (.slice A1_2 l1_2.length c1_2) := (blk_cell BK284.out 2).trans rfl
                    have hcz35_3 : wr.cell? ⟨gb284, 3, none⟩ = some (.slice A1_3 l1_3.length c1_3) := (blk_cell BK284.out 3).trans rfl
                    have hfz35_0 := blk_frozen BK284.out 0
                    have hfz35_1 := blk_frozen BK284.out 1
                    have hfz35_2 := blk_frozen BK284.out 2
                    have hfz35_3 := blk_frozen BK284.out 3
                    have p287 : 0 ≤ (x6_2 : Int) := of_decide_eq_true (by first | (with_reducible assumption) | assumption)
                    have q287 : x6_2 < (l1_3.length : Int) := of_decide_eq_true (by first | (with_reducible assumption) | assumption)
                    obtain ⟨ad287, e287, hx287_0, hx287_1⟩ := at_T50 HR1_3.out x6_2 p287 q287
                    cases e287
                    replace hx287_0 := (HB.out.cell (World.block_lt_of_cell? w _ hx287_0)).trans hx287_0
                    replace hx287_1 := (HB.out.cell (World.block_lt_of_cell? w _ hx287_1)).trans hx287_1
                    replace p287 := eq_true p287
                    replace q287 := eq_true q287
                    go_wp2
                    repeat (go_quiet (fail); try go_wp2)
                    go_roundg k2
                    case measure => have := HJ3.out; have := HK2.out; omega
                    case rel => exact ⟨(wrap64 (x6_2 + 1)), (by first | rfl | (simp; done) | (simp [*]; done)), H', ⟨by have := HJ3.out; have := HK2.out; omega⟩, ⟨by (with_reducible repeat (first | refine blk_drewN ?_ _ | refine blk_drew ?_ | refine blk_alloc ?_ _)); exact BK283.out⟩, ⟨by (with_reducible repeat (first | refine blk_drewN ?_ _ | refine blk_drew ?_ | refine blk_alloc ?_ _)); exact BK284.out⟩, ⟨by repeat (first | (with_reducible first | exact HB.out | apply below_alloc | apply pw_below_drewN | apply below_drew1 | refine below_set ?_ GE283.out | refine below_set ?_ GE284.out) | exact HB.out)⟩⟩
                · rw [if_neg c28] at H
                  exact absurd H (by simp)
              · rw [if_neg c27] at H
                exact absurd H (by simp)
            · rw [if_neg c26] at H
              have c26b0 : decide (x6_2 < (l0_3.length : Int)) = false := decide_eq_false c26
              clear c26
              obtain rfl := Option.some.inj H
              have hnb36 := NB283_284.out
              have hnc36 := NB284_283.out
              have hcz37_0 : wr.cell? ⟨gb283, 0, none⟩ = some (.string a0_0) := (blk_cell BK283.out 0).trans rfl
              have hcz37_1 : wr.cell? ⟨gb283, 1, none⟩ = some (.string a0_1) := (blk_cell BK283.out 1).trans rfl
              have hcz37_2 : wr.cell? ⟨gb283, 2, none⟩ = some (.slice A0_2 l0_2.length c0_2) := (blk_cell BK283.out 2).trans rfl
              have hcz37_3 : wr.cell? ⟨gb283, 3, none⟩ = some (.slice A0_3 l0_3.length c0_3) := (blk_cell BK283.out 3).trans rfl
              have hfz37_0 := blk_frozen BK283.out 0
              have hfz37_1 := blk_frozen BK283.out 1
              have hfz37_2 := blk_frozen BK283.out 2
              have hfz37_3 := blk_frozen BK283.out 3
              go_wp2
              repeat (go_quiet (fail); try go_wp2)
              go_ret
              exact ⟨by first | rfl | (simp [errW_none, errW_some] <;> rfl) | (simp [*, errW_none, errW_some] <;> rfl), by repeat (first | (with_reducible first | exact HB.out | apply below_alloc | apply pw_below_drewN | apply below_drew1 | refine below_set ?_ GE283.out | refine below_set ?_ GE284.out) | exact HB.out)⟩

end Go.Proofs.Ytafeakcajhhkoaa.Prt
namespace Go.Proofs.Ytafeakcajhhkoaa.Prt
open Go.RowKit Go.Proofs.YtafeakcajhhkoaaW.PrintWords Go.Proofs.YtafeakcajhhkoaaW.PrintLast Go.Proofs.YtafeakcajhhkoaaW.PrintMore Go.Proofs.Ytafeakcajhhkoaa.Num Go.Proofs.Ytafeakcajhhkoaa.Nam
set_option linter.unusedVariables false
set_option linter.unusedSimpArgs false

theorem drop_rdF (l : List S50) (i : Nat) (h : i < l.length) : l.drop i = rd_T50 l (i : Int) :: l.drop (i + 1) := by
  rw [List.drop_eq_getElem_cons h]
  unfold rd_T50
  rw [Int.toNat_natCast, List.getD_eq_getElem?_getD, List.getElem?_eq_getElem h]; rfl
theorem rdF_mem {l : List S50} {i : Nat} (h : i < l.length) : rd_T50 l (i : Int) ∈ l := getD_mem' h _
theorem all_any {α : Type} (p : α → Bool) (l : List α) : l.all p = !(l.any fun x => !p x) := by
  induction l with
  | nil => rfl
  | cons a r ih => simp only [List.all_cons, List.any_cons, ih, Bool.not_or, Bool.not_not]
def endE (fit : Bool) (names tags : List ByteArray) : Int := if (tags.all tagB) = false then 5 else if riseB tags = false ∨ riseB names = false ∨ fit = false then 1 else 0
theorem may04_loop (s t : ByteArray) (tags : List ByteArray) (fl : List S50) (ht : tags.length ≤ 9223372036854775807) (h3 : fitS tags = true) (h4 : ∀ x ∈ fl, x.f0.size ≤ 9223372036854775807) (h5 : fl.length < 8796093022208) :
    ∀ (n i k : Nat) (acc : List ByteArray) (fit : Bool), i + n = fl.length → acc.length = i → n < k → registrarref04_May.l0 k acc fit (i : Int) s t tags fl = some (if ((fl.drop i).any fun x => !mayL (bytesOf x.f0)) = true then 5 else endE (fit && !(fl.drop i).any overB) (acc ++ (fl.drop i).map (·.f0)) tags) := by
  intro n
  induction n with
  | zero =>
    intro i k acc fit hi ha hk
    obtain ⟨k, rfl⟩ : ∃ m, k = m + 1 := ⟨k - 1, by omega⟩
    have m1 : registrarref04_tagsG.f tags = some (tags.all tagB) := if_pos ⟨ht, h3⟩
    have m2 : registrarref04_RiseG.f tags = some (riseB tags) := if_pos ht
    have m3 : registrarref04_RiseG.f acc = some (riseB acc) := if_pos (by omega)
    rw [registrarref04_May.l0, if_neg (by omega), m1, m2, m3, List.drop_eq_nil_of_le (by omega)]
    simp only [Option.bind_some, List.any_nil, List.map_nil, List.append_nil, Bool.not_false, Bool.and_true]
    unfold endE
    cases tags.all tagB <;> cases fit <;> cases riseB tags <;> cases riseB acc <;> rfl
  | succ n ih =>
    intro i k acc fit hi ha hk
    obtain ⟨k, rfl⟩ : ∃ m, k = m + 1 := ⟨k - 1, by omega⟩
    have m1 : registrarref03_MayG.f (rd_T50 fl (i : Int)).f0 = some (mayL (bytesOf (rd_T50 fl (i : Int)).f0)) := if_pos (h4 _ (rdF_mem (by omega)))
    rw [registrarref04_May.l0, if_pos (by omega), if_pos (by omega), m1, drop_rdF fl i (by omega), List.any_cons, List.any_cons, List.map_cons]
    simp only [Option.bind_some]
    generalize rd_T50 fl (i : Int) = x
    cases hm : mayL (bytesOf x.f0) with
    | false => rfl
    | true =>
      rw [if_pos rfl, if_pos (by omega), succW i (by omega)]
      have e : ∀ f2, registrarref04_May.l0 k (acc ++ [x.f0]) f2 ((i + 1 : Nat) : Int) s t tags fl = some (if ((fl.drop (i + 1)).any fun x => !mayL (bytesOf x.f0)) = true then 5 else endE (f2 && !(fl.drop (i + 1)).any overB) (acc ++ x.f0 :: (fl.drop (i + 1)).map (·.f0)) tags) := by
        intro f2
        rw [ih (i + 1) k _ f2 (by omega) (by simp [ha]) (by omega), List.append_assoc]; rfl
      rw [e, e]
      simp only [Bool.not_true, Bool.false_or]
      cases fit with
      | false =>
        rw [if_neg (by decide)]; rfl
      | true =>
        rw [if_pos rfl]
        by_cases h1 : x.f1 ≥ -1099511627776
        · rw [if_pos h1]
          have e2 : overB x = !decide (x.f1 ≤ 1099511627776) := by
            unfold overB
            rw [Bool.eq_iff_iff]; simp only [decide_eq_true_eq, Bool.not_eq_true', decide_eq_false_iff_not]; omega
          rw [e2]
          cases decide (x.f1 ≤ 1099511627776) <;> simp
        · rw [if_neg h1]
          have e2 : overB x = true := by unfold overB; exact decide_eq_true (by omega)
          rw [e2]; simp
theorem mayE_val (s t : ByteArray) (tags : List ByteArray) (fl : List S50) (h1 : mayL (bytesOf s) = true) (h2 : mayL (bytesOf t) = true) (h3 : ¬ 6 < tags.length) (h4 : ¬ 4 < fl.length) :
    (if (fl.any fun x => !mayL (bytesOf x.f0)) = true then 5 else endE (!fl.any overB) (fl.map (·.f0)) tags) = mayE s t tags fl := by
  have e0 : mayE s t tags fl = if (tags.any fun s => !tagB s) = true ∨ ((fl.map (·.f0)).any fun s => !mayL (bytesOf s)) = true then 5 else if riseB tags = false ∨ riseB (fl.map (·.f0)) = false ∨ fl.any overB = true then 1 else 0 := by
    unfold mayE
    rw [if_neg (by rw [h1, h2]; simp), if_neg (by omega)]
  rw [e0]
  unfold endE
  rw [List.any_map, all_any]
  have e : (fl.any fun x => !mayL (bytesOf x.f0)) = fl.any ((fun s => !mayL (bytesOf s)) ∘ fun x => x.f0) := rfl
  rw [e]
  cases fl.any ((fun s => !mayL (bytesOf s)) ∘ fun x => x.f0) <;> cases (tags.any fun x => !tagB x) <;> cases riseB tags <;> cases riseB (fl.map (·.f0)) <;> cases fl.any overB <;> simp
def registrarref04_MayG.f (a0_0 : ByteArray) (a0_1 : ByteArray) (l0_2 : List ByteArray) (l0_3 : List (S50)) : Option (Int) := if fitE a0_0 a0_1 l0_2 l0_3 = true ∧ l0_2.length ≤ 9223372036854775807 then some (mayE a0_0 a0_1 l0_2 l0_3) else none
theorem registrarref04_MayG.val {a0_0 a0_1 : ByteArray} {l0_2 : List ByteArray} {l0_3 : List (S50)} {r : Int} (h : registrarref04_MayG.f a0_0 a0_1 l0_2 l0_3 = some r) : ∃ k, registrarref04_May.f k a0_0 a0_1 l0_2 l0_3 = some r := by
  unfold registrarref04_MayG.f at h
  by_cases hc : fitE a0_0 a0_1 l0_2 l0_3 = true ∧ l0_2.length ≤ 9223372036854775807
  · rw [if_pos hc] at h
    obtain rfl := Option.some.inj h
    obtain ⟨h1, h2, h3, h4, h5⟩ := fitE_iff.1 hc.1
    have m1 : registrarref03_MayG.f a0_0 = some (mayL (bytesOf a0_0)) := if_pos h1
    have m2 : registrarref03_MayG.f a0_1 = some (mayL (bytesOf a0_1)) := if_pos h2
    refine ⟨l0_3.length + 4, ?_⟩
    unfold registrarref04_May.f
    rw [m1, m2]
    simp only [Option.bind_some]
    cases q1 : mayL (bytesOf a0_0) with
    | false =>
      rw [if_neg (by decide), registrarref04_May.j0, if_pos rfl]
      unfold mayE; rw [if_pos (.inl q1)]
    | true =>
      rw [if_pos rfl, registrarref04_May.j0]
      cases q2 : mayL (bytesOf a0_1) with
      | false => rw [if_pos (by decide)]; unfold mayE; rw [if_pos (.inr q2)]
      | true =>
        rw [if_neg (by decide)]
        by_cases g1 : 6 < l0_2.length
        · rw [if_pos (by omega), registrarref04_May.j1, if_pos rfl]
          unfold mayE; rw [if_neg (by rw [q1, q2]; simp), if_pos (.inl g1)]
        · rw [if_neg (by omega), registrarref04_May.j1]
          by_cases g2 : 4 < l0_3.length
          · rw [if_pos (decide_eq_true (by omega))]
            unfold mayE; rw [if_neg (by rw [q1, q2]; simp), if_pos (.inr g2)]
          · rw [if_neg (by rw [decide_eq_true_iff]; omega), show (0 : Int) = ((0 : Nat) : Int) from rfl, may04_loop a0_0 a0_1 l0_2 l0_3 hc.2 (fitS_iff.2 h3) h4 h5 l0_3.length 0 _ [] true (by omega) rfl (by omega), List.drop_zero, List.nil_append, Bool.true_and, mayE_val _ _ _ _ q1 q2 g1 g2]
  · rw [if_neg hc] at h; cases h
theorem registrarref04_MayG.calls (a0_0 : ByteArray) (a0_1 : ByteArray) (A0_2 : Option Addr) (c0_2 : Nat) (l0_2 : List ByteArray) (A0_3 : Option Addr) (c0_3 : Nat) (l0_3 : List (S50)) (r : Int) (w : World) (hr0_2 : Kd.C Kd.string w A0_2 l0_2.length l0_2) (hc0_2 : l0_2.length ≤ c0_2) (hr0_3 : Kd.C k50 w A0_3 l0_3.length l0_3) (hc0_3 : l0_3.length ≤ c0_3) (h : registrarref04_MayG.f a0_0 a0_1 l0_2 l0_3 = some r) :
    Calls Try.prog 23 #[.agg #[.string a0_0, .string a0_1, .slice A0_2 l0_2.length c0_2, .slice A0_3 l0_3.length c0_3]] w fun e w' => e = .returned (.int .i64 r) ∧ Below w.heap.size w w' := by
  obtain ⟨k, hk⟩ := registrarref04_MayG.val h
  exact registrarref04_May.calls k a0_0 a0_1 A0_2 c0_2 l0_2 A0_3 c0_3 l0_3 r w hr0_2 hc0_2 hr0_3 hc0_3 hk

def eqF (x y : S50) : Bool := eqS x.f0 y.f0 && (x.f1 == y.f1)
theorem eqF_iff (x y : S50) : eqF x y = true ↔ x = y := by
  unfold eqF
  rw [Bool.and_eq_true, eqS_iff, beq_iff_eq]
  cases x; cases y; simp
def eqEv (s t : ByteArray) (a : List ByteArray) (f : List S50) (s' t' : ByteArray) (a' : List ByteArray) (f' : List S50) : Bool := eqS s s' && eqS t t' && eqL eqS a a' && eqL eqF f f'
theorem eqEv_iff {s t : ByteArray} {a : List ByteArray} {f : List S50} {s' t' : ByteArray} {a' : List ByteArray} {f' : List S50} : eqEv s t a f s' t' a' f' = true ↔ s = s' ∧ t = t' ∧ a = a' ∧ f = f' := by
  unfold eqEv
  simp only [Bool.and_eq_true, eqS_iff, eqL_iff eqS_iff, eqL_iff eqF_iff, and_assoc]
theorem same_loop (s t s' t' : ByteArray) (a a' : List ByteArray) (f f' : List S50) (hl : f.length ≤ 9223372036854775807) (hff : f.length = f'.length) : ∀ (n i k : Nat), i + n = f.length → n < k → registrarref04_Same.l0 k (i : Int) s t a f s' t' a' f' = some (eqL eqF (f.drop i) (f'.drop i)) := by
  intro n
  induction n with
  | zero =>
    intro i k hi hk
    obtain ⟨k, rfl⟩ : ∃ m, k = m + 1 := ⟨k - 1, by omega⟩
    rw [registrarref04_Same.l0, if_neg (by omega), List.drop_eq_nil_of_le (by omega), List.drop_eq_nil_of_le (by omega)]; rfl
  | succ n ih =>
    intro i k hi hk
    obtain ⟨k, rfl⟩ : ∃ m, k = m + 1 := ⟨k - 1, by omega⟩
    rw [registrarref04_Same.l0, if_pos (by omega), if_pos (by omega), if_pos (by omega), drop_rdF f i (by omega), drop_rdF f' i (by omega), eqL, succW i (by omega), ih (i + 1) k (by omega) (by omega)]
    unfold eqF eqS
    cases ((rd_T50 f (i : Int)).f0.toList == (rd_T50 f' (i : Int)).f0.toList) <;> cases ((rd_T50 f (i : Int)).f1 == (rd_T50 f' (i : Int)).f1) <;> rfl
def registrarref04_SameG.f (a0_0 : ByteArray) (a0_1 : ByteArray) (l0_2 : List ByteArray) (l0_3 : List (S50)) (a1_0 : ByteArray) (a1_1 : ByteArray) (l1_2 : List ByteArray) (l1_3 : List (S50)) : Option (Bool) :=
  if l0_2.length ≤ 9223372036854775807 ∧ l0_3.length ≤ 9223372036854775807 then some (eqEv a0_0 a0_1 l0_2 l0_3 a1_0 a1_1 l1_2 l1_3) else none
theorem registrarref04_SameG.val {a0_0 a0_1 : ByteArray} {l0_2 : List ByteArray} {l0_3 : List (S50)} {a1_0 a1_1 : ByteArray} {l1_2 : List ByteArray} {l1_3 : List (S50)} {r : Bool} (h : registrarref04_SameG.f a0_0 a0_1 l0_2 l0_3 a1_0 a1_1 l1_2 l1_3 = some r) : ∃ k, registrarref04_Same.f k a0_0 a0_1 l0_2 l0_3 a1_0 a1_1 l1_2 l1_3 = some r := by
  unfold registrarref04_SameG.f at h
  by_cases hc : l0_2.length ≤ 9223372036854775807 ∧ l0_3.length ≤ 9223372036854775807
  · rw [if_pos hc] at h
    obtain rfl := Option.some.inj h
    have m1 : registrarref04_TextsG.f l0_2 l1_2 = some (eqL eqS l0_2 l1_2) := if_pos hc.1
    have j0t : ∀ k, registrarref04_Same.j0 (k + 1) true a0_0 a0_1 l0_2 l0_3 a1_0 a1_1 l1_2 l1_3 = some false := fun k => by rw [registrarref04_Same.j0, if_pos rfl]
    refine ⟨l0_3.length + 3, ?_⟩
    unfold registrarref04_Same.f
    rw [m1]
    simp only [Option.bind_some]
    have e1 : eqS a0_0 a1_0 = decide (a0_0.toList = a1_0.toList) := by unfold eqS; rw [Bool.eq_iff_iff, beq_iff_eq, decide_eq_true_iff]
    have e2 : eqS a0_1 a1_1 = decide (a0_1.toList = a1_1.toList) := by unfold eqS; rw [Bool.eq_iff_iff, beq_iff_eq, decide_eq_true_iff]
    unfold eqEv
    rw [e1, e2]
    by_cases g1 : a0_0.toList = a1_0.toList
    · rw [if_pos g1, decide_eq_true g1]
      by_cases g2 : a0_1.toList = a1_1.toList
      · rw [if_pos g2, decide_eq_true g2]
        cases eqL eqS l0_2 l1_2 with
        | false => rw [if_neg (by decide), j0t]; rfl
        | true =>
          rw [if_pos rfl, registrarref04_Same.j0]
          by_cases g3 : l0_3.length = l1_3.length
          · rw [if_neg (by rw [bne_iff_ne]; omega)]
            have := same_loop a0_0 a0_1 a1_0 a1_1 l0_2 l1_2 l0_3 l1_3 hc.2 g3 l0_3.length 0 (l0_3.length + 2) (by omega) (by omega)
            rw [List.drop_zero, List.drop_zero] at this
            exact this
          · rw [if_pos (by rw [bne_iff_ne]; omega), eqL_len _ _ g3]; rfl
      · rw [if_neg g2, decide_eq_false g2, j0t, Bool.and_false]; rfl
    · rw [if_neg g1, decide_eq_false g1, j0t]; rfl
  · rw [if_neg hc] at h; cases h
theorem registrarref04_SameG.calls (a0_0 : ByteArray) (a0_1 : ByteArray) (A0_2 : Option Addr) (c0_2 : Nat) (l0_2 : List ByteArray) (A0_3 : Option Addr) (c0_3 : Nat) (l0_3 : List (S50)) (a1_0 : ByteArray) (a1_1 : ByteArray) (A1_2 : Option Addr) (c1_2 : Nat) (l1_2 : List ByteArray) (A1_3 : Option Addr) (c1_3 : Nat) (l1_3 : List (S50)) (r : Bool) (w : World) (hr0_2 : Kd.C Kd.string w A0_2 l0_2.length l0_2) (hc0_2 : l0_2.length ≤ c0_2) (hr0_3 : Kd.C k50 w A0_3 l0_3.length l0_3) (hc0_3 : l0_3.length ≤ c0_3) (hr1_2 : Kd.C Kd.string w A1_2 l1_2.length l1_2) (hc1_2 : l1_2.length ≤ c1_2) (hr1_3 : Kd.C k50 w A1_3 l1_3.length l1_3) (hc1_3 : l1_3.length ≤ c1_3) (h : registrarref04_SameG.f a0_0 a0_1 l0_2 l0_3 a1_0 a1_1 l1_2 l1_3 = some r) :
    Calls Try.prog 46 #[.agg #[.string a0_0, .string a0_1, .slice A0_2 l0_2.length c0_2, .slice A0_3 l0_3.length c0_3], .agg #[.string a1_0, .string a1_1, .slice A1_2 l1_2.length c1_2, .slice A1_3 l1_3.length c1_3]] w fun e w' => e = .returned (.bool r) ∧ Below w.heap.size w w' := by
  obtain ⟨k, hk⟩ := registrarref04_SameG.val h
  exact registrarref04_Same.calls k a0_0 a0_1 A0_2 c0_2 l0_2 A0_3 c0_3 l0_3 a1_0 a1_1 A1_2 c1_2 l1_2 A1_3 c1_3 l1_3 r w hr0_2 hc0_2 hr0_3 hc0_3 hr1_2 hc1_2 hr1_3 hc1_3 hk
end Go.Proofs.Ytafeakcajhhkoaa.Prt
namespace Go.Proofs.Ytafeakcajhhkoaa.Prt
open Go.RowKit Go.Proofs.YtafeakcajhhkoaaW.PrintWords Go.Proofs.YtafeakcajhhkoaaW.PrintLast Go.Proofs.YtafeakcajhhkoaaW.PrintMore Go.Proofs.Ytafeakcajhhkoaa.Num
set_option linter.unusedVariables false
set_option linter.unusedSimpArgs false

def num_Put.f (l0 : List Int) (a1 : Int) : Option (List Int) := if l0.length ≤ 140737488350000 ∧ -9223372036854775808 ≤ a1 ∧ a1 ≤ 9223372036854775807 then some (l0 ++ enc a1) else none
theorem num_Put.calls (A0 : Option Addr) (c0 : Nat) (l0 : List Int) (a1 : Int) (r : List Int) (w : World) (hr0 : Kd.C (Kd.int .u8) w A0 l0.length l0) (hc0 : l0.length ≤ c0) (h : num_Put.f l0 a1 = some r) :
    Calls Try.prog 20 #[.slice A0 l0.length c0, .int .i64 a1] w fun e w' => ∃ v0_ : Value, e = .returned (v0_) ∧ Kd.R (Kd.int .u8) 5 w' w.heap.size (fun _ => True) v0_ r ∧ Below w.heap.size w w' := by
  unfold num_Put.f at h
  by_cases hc : l0.length ≤ 140737488350000 ∧ -9223372036854775808 ≤ a1 ∧ a1 ≤ 9223372036854775807
  · rw [if_pos hc] at h
    obtain rfl := Option.some.inj h
    exact put_calls A0 c0 l0 a1 w hr0 hc0 hc.2.1 hc.2.2 hc.1
  · rw [if_neg hc] at h; cases h
def registrarref01_Put.f (l0 : List Int) (a1 : Int) : Option (List Int) := if l0.length ≤ 140737488350000 ∧ -9223372036854775808 ≤ a1 ∧ a1 ≤ 9223372036854775807 then some (l0 ++ enc a1) else none
theorem registrarref01_Put.calls (A0 : Option Addr) (c0 : Nat) (l0 : List Int) (a1 : Int) (r : List Int) (w : World) (hr0 : Kd.C (Kd.int .u8) w A0 l0.length l0) (hc0 : l0.length ≤ c0) (h : registrarref01_Put.f l0 a1 = some r) :
    Calls Try.prog 16 #[.slice A0 l0.length c0, .int .i64 a1] w fun e w' => ∃ v0_ : Value, e = .returned (v0_) ∧ Kd.R (Kd.int .u8) 5 w' w.heap.size (fun _ => True) v0_ r ∧ Below w.heap.size w w' := by
  unfold registrarref01_Put.f at h
  by_cases hc : l0.length ≤ 140737488350000 ∧ -9223372036854775808 ≤ a1 ∧ a1 ≤ 9223372036854775807
  · rw [if_pos hc] at h
    obtain rfl := Option.some.inj h
    exact refPut_calls A0 c0 l0 a1 w hr0 hc0 hc.2.1 hc.2.2 hc.1
  · rw [if_neg hc] at h; cases h
def num_PutText.f (l0 : List Int) (a1 : ByteArray) : Option (List Int) := if l0.length + a1.size ≤ 140737488349000 then some (l0 ++ encT (bytesOf a1)) else none
theorem num_PutText.calls (A0 : Option Addr) (c0 : Nat) (l0 : List Int) (a1 : ByteArray) (r : List Int) (w : World) (hr0 : Kd.C (Kd.int .u8) w A0 l0.length l0) (hc0 : l0.length ≤ c0) (h : num_PutText.f l0 a1 = some r) :
    Calls Try.prog 25 #[.slice A0 l0.length c0, .string a1] w fun e w' => ∃ v0_ : Value, e = .returned (v0_) ∧ Kd.R (Kd.int .u8) 5 w' w.heap.size (fun _ => True) v0_ r ∧ Below w.heap.size w w' := by
  unfold num_PutText.f at h
  by_cases hc : l0.length + a1.size ≤ 140737488349000
  · rw [if_pos hc] at h
    obtain rfl := Option.some.inj h
    exact putText_calls A0 c0 l0 a1 w hr0 hc0 hc
  · rw [if_neg hc] at h; cases h
def registrarref01_PutText.f (l0 : List Int) (a1 : ByteArray) : Option (List Int) := if l0.length + a1.size ≤ 140737488349000 then some (l0 ++ encT (bytesOf a1)) else none
theorem registrarref01_PutText.calls (A0 : Option Addr) (c0 : Nat) (l0 : List Int) (a1 : ByteArray) (r : List Int) (w : World) (hr0 : Kd.C (Kd.int .u8) w A0 l0.length l0) (hc0 : l0.length ≤ c0) (h : registrarref01_PutText.f l0 a1 = some r) :
    Calls Try.prog 34 #[.slice A0 l0.length c0, .string a1] w fun e w' => ∃ v0_ : Value, e = .returned (v0_) ∧ Kd.R (Kd.int .u8) 5 w' w.heap.size (fun _ => True) v0_ r ∧ Below w.heap.size w w' := by
  unfold registrarref01_PutText.f at h
  by_cases hc : l0.length + a1.size ≤ 140737488349000
  · rw [if_pos hc] at h
    obtain rfl := Option.some.inj h
    exact refPutText_calls A0 c0 l0 a1 w hr0 hc0 hc
  · rw [if_neg hc] at h; cases h
end Go.Proofs.Ytafeakcajhhkoaa.Prt
namespace Go.Proofs.Ytafeakcajhhkoaa.Prt
open Go.RowKit Go.Proofs.YtafeakcajhhkoaaW.PrintWords Go.Proofs.YtafeakcajhhkoaaW.PrintLast Go.Proofs.YtafeakcajhhkoaaW.PrintMore
attribute [local go_sem] max2_int min2_int max_two min_two max_three min_three max_four min_four   -- for this text's walks alone
set_option linter.unusedVariables false
set_option linter.unusedSimpArgs false

mutual
def evcode_Put.l0 : Nat → List Int → List ByteArray → Int → Int → ByteArray → ByteArray → List ByteArray → List (S50) → Option (List Int × Int)
  | 0, _, _, _, _, _, _, _, _ => none
  | k + 1, x7, x30, x31, x32, x110000, x110001, x110002, x110003 => if x32 < x31 then (if 0 ≤ x32 then (if x32 < (x30.length : Int) then ((num_PutText.f x7 (rdOf ByteArray.empty x30 x32)).bind fun t121 => (evcode_Put.l0 k t121 x30 x31 (wrap64 (x32 + 1)) x110000 x110001 x110002 x110003)) else (none)) else (none)) else ((num_Put.f x7 (x110003.length : Int)).bind fun t124 => (evcode_Put.l1 k t124 x110003 (x110003.length : Int) 0))
def evcode_Put.l1 : Nat → List Int → List (S50) → Int → Int → Option (List Int × Int)
  | 0, _, _, _, _ => none
  | k + 1, x7, x46, x47, x48 => if x48 < x47 then (if 0 ≤ x48 then (if x48 < (x46.length : Int) then ((num_PutText.f x7 ((rd_T50 x46 x48).f0)).bind fun t129 => ((num_Put.f t129 ((rd_T50 x46 x48).f1)).bind fun t132 => (evcode_Put.l1 k t132 x46 x47 (wrap64 (x48 + 1))))) else (none)) else (none)) else (some (x7, 0))
end
def evcode_Put.f (k : Nat) (l0 : List Int) (a1_0 : ByteArray) (a1_1 : ByteArray) (l1_2 : List ByteArray) (l1_3 : List (S50)) : Option (List Int × Int) := (event_May.f a1_0 a1_1 l1_2 l1_3).bind fun t110 => (if t110 = 0 then ((num_PutText.f l0 a1_0).bind fun t111 => ((num_PutText.f t111 a1_1).bind fun t114 => ((num_Put.f t114 (l1_2.length : Int)).bind fun t117 => (evcode_Put.l0 k t117 l1_2 (l1_2.length : Int) 0 a1_0 a1_1 l1_2 l1_3)))) else (some (([] : List Int), t110)))
def evcode_Put.T4 : Bool × List (List Nat × List Nat) := (true, [([], []), ([], []), ([1], [1]), ([0, 2], [0, 2]), ([], []), ([4], [4]), ([3, 5, 3], [3, 5]), ([6, 6, 0, 1, 2, 3, 4, 5, 6], [6])])
def evcode_Put.B4 : List Nat := [0, 0, 2, 7, 0, 16, 63, 127]
theorem evcode_Put.tab4 : rtab .any (opsOf Try.f17 4) = evcode_Put.T4 := by kernel_rfl
theorem evcode_Put.bits4 : waitsOk evcode_Put.T4.2 evcode_Put.B4 = true := by kernel_rfl
def evcode_Put.T15 : Bool × List (List Nat × List Nat) := (true, [([], []), ([], []), ([1], [1]), ([0, 2], [0, 2]), ([], []), ([4], [4]), ([3, 5, 3], [3, 5]), ([6, 6, 0, 1, 2, 3, 4, 5, 6], [0, 6])])
def evcode_Put.B15 : List Nat := [0, 0, 2, 7, 0, 16, 63, 127]
theorem evcode_Put.tab15 : rtab .any (opsOf Try.f17 15) = evcode_Put.T15 := by kernel_rfl
theorem evcode_Put.bits15 : waitsOk evcode_Put.T15.2 evcode_Put.B15 = true := by kernel_rfl
set_option maxHeartbeats 8000000 in
set_option maxRecDepth 100000 in
theorem evcode_Put.calls (k : Nat) (A0 : Option Addr) (c0 : Nat) (l0 : List Int) (a1_0 : ByteArray) (a1_1 : ByteArray) (A1_2 : Option Addr) (c1_2 : Nat) (l1_2 : List ByteArray) (A1_3 : Option Addr) (c1_3 : Nat) (l1_3 : List (S50)) (r1 : List Int) (r2 : Int) (w : World) (hr0 : Kd.C (Kd.int .u8) w A0 l0.length l0) (hc0 : l0.length ≤ c0) (hr1_2 : Kd.C Kd.string w A1_2 l1_2.length l1_2) (hc1_2 : l1_2.length ≤ c1_2) (hr1_3 : Kd.C k50 w A1_3 l1_3.length l1_3) (hc1_3 : l1_3.length ≤ c1_3) (h : evcode_Put.f k l0 a1_0 a1_1 l1_2 l1_3 = some (r1, r2)) :
    Calls Try.prog 17 #[.slice A0 l0.length c0, .agg #[.string a1_0, .string a1_1, .slice A1_2 l1_2.length c1_2, .slice A1_3 l1_3.length c1_3]] w fun e w' => ∃ v0_ : Value, e = .returned (.tuple #[v0_, .int .i64 r2]) ∧ Kd.R (Kd.int .u8) 5 w' w.heap.size (fun _ => True) v0_ r1 ∧ Below w.heap.size w w' := by
  have hu40 := Try.underlying40
  have hu50 := Try.underlying50
  have HR0 := Aside0.mk hr0
  have HC0 := Aside0.mk hc0
  clear hr0 hc0
  have HR1_2 := Aside0.mk hr1_2
  have HC1_2 := Aside0.mk hc1_2
  clear hr1_2 hc1_2
  have HR1_3 := Aside0.mk hr1_3
  have HC1_3 := Aside0.mk hc1_3
  clear hr1_3 hc1_3
  have HB := Aside0.mk (Below.refl w.heap.size w)
  have H : ((event_May.f a1_0 a1_1 l1_2 l1_3).bind fun t110 => (if t110 = 0 then ((num_PutText.f l0 a1_0).bind fun t111 => ((num_PutText.f t111 a1_1).bind fun t114 => ((num_Put.f t114 (l1_2.length : Int)).bind fun t117 => (evcode_Put.l0 k t117 l1_2 (l1_2.length : Int) 0 a1_0 a1_1 l1_2 l1_3)))) else (some (([] : List Int), t110)))) = some (r1, r2) := h
  clear h
  replace H := Option.bind_eq_some_iff.mp H
  obtain ⟨t110, A30, H⟩ := H
  replace H : (if t110 = 0 then ((num_PutText.f l0 a1_0).bind fun t111 => ((num_PutText.f t111 a1_1).bind fun t114 => ((num_Put.f t114 (l1_2.length : Int)).bind fun t117 => (evcode_Put.l0 k t117 l1_2 (l1_2.length : Int) 0 a1_0 a1_1 l1_2 l1_3)))) else (some (([] : List Int), t110))) = some (r1, r2) := H
  have A3 := Aside0.mk A30
  clear A30
  by_cases c4 : t110 = 0
  · rw [if_pos c4] at H
    have c4b0 : (t110 == 0) = true := beq_iff_eq.mpr c4
    have c4b1 : (t110 != 0) = false := bne_eq_false_iff_eq.mpr c4
    clear c4
    replace H := Option.bind_eq_some_iff.mp H
    obtain ⟨t111, A50, H⟩ := H
    replace H : ((num_PutText.f t111 a1_1).bind fun t114 => ((num_Put.f t114 (l1_2.length : Int)).bind fun t117 => (evcode_Put.l0 k t117 l1_2 (l1_2.length : Int) 0 a1_0 a1_1 l1_2 l1_3))) = some (r1, r2) := H
    have A5 := Aside0.mk A50
    clear A50
    replace H := Option.bind_eq_some_iff.mp H
    obtain ⟨t114, A60, H⟩ := H
    replace H : ((num_Put.f t114 (l1_2.length : Int)).bind fun t117 => (evcode_Put.l0 k t117 l1_2 (l1_2.length : Int) 0 a1_0 a1_1 l1_2 l1_3)) = some (r1, r2) := H
    have A6 := Aside0.mk A60
    clear A60
    replace H := Option.bind_eq_some_iff.mp H
    obtain ⟨t117, A70, H⟩ := H
    replace H : (evcode_Put.l0 k t117 l1_2 (l1_2.length : Int) 0 a1_0 a1_1 l1_2 l1_3) = some (r1, r2) := H
    have A7 := Aside0.mk A70
    clear A70
    have H' := Aside0.mk H
    clear H
    go_enter Try.func17, Try.ntmps17
    try go_wp2_with (first | ((with_reducible refine gate_dst (N := 3) rfl ?_); refine box_event ?hg (N := 3) ?hd (cs := #[.string a1_0, .string a1_1, .slice A1_2 l1_2.length c1_2, .slice A1_3 l1_3.length c1_3]) (t := 40) ?hr ?_; (case hd => rfl); (case hg => rfl); (case hr => first | (go_simp; done) | (go_simp; rfl)); intro gb109 hg w8 hbox hb; have n0_ := Aside0.mk (below_step (by repeat (first | (with_reducible first | exact HB.out | apply below_alloc | apply pw_below_drewN | apply below_drew1) | exact HB.out)) hb); have n1_ := Aside0.mk (hbox); have n2_ := Aside0.mk ((by rw [hg]; exact (below_size (by repeat (first | (with_reducible first | exact HB.out | apply below_alloc | apply pw_below_drewN | apply below_drew1) | exact HB.out))) : w.heap.size ≤ gb109)); have n3_ := Aside0.mk ((by rw [hg]; exact (below_size (by repeat (first | (with_reducible first | exact HB.out | apply below_alloc | apply pw_below_drewN | apply below_drew1) | exact HB.out))) : w.heap.size ≤ gb109)); clear HB; have HB := n0_; have BK109 := n1_; have GW109 := n2_; have GE109 := n3_; clear n0_ n1_ n2_ n3_; clear hb hbox hg; have hcz9_0 : w8.cell? ⟨gb109, 0, none⟩ = some (.string a1_0) := (blk_cell BK109.out 0).trans rfl; have hcz9_1 : w8.cell? ⟨gb109, 1, none⟩ = some (.string a1_1) := (blk_cell BK109.out 1).trans rfl; have hcz9_2 : w8.cell? ⟨gb109, 2, none⟩ = some (.slice A1_2 l1_2.length c1_2) := (blk_cell BK109.out 2).trans rfl; have hcz9_3 : w8.cell? ⟨gb109, 3, none⟩ = some (.slice A1_3 l1_3.length c1_3) := (blk_cell BK109.out 3).trans rfl; have hfz9_0 := blk_frozen BK109.out 0; have hfz9_1 := blk_frozen BK109.out 1; have hfz9_2 := blk_frozen BK109.out 2; have hfz9_3 := blk_frozen BK109.out 3) | ((with_reducible refine gate_callee (f := 22) rfl ?_); refine goesL_ (some 13) rfl rfl Try.func22 (by kernel_rfl) rfl #[.agg #[.string a1_0, .string a1_1, .slice A1_2 l1_2.length c1_2, .slice A1_3 l1_3.length c1_3]] rfl (by (try simp only [List.map_toArray, List.map_cons, List.map_nil]); first | done | rfl | (simp only [List.length_drop, List.length_take]; rfl)) ?_; (with_reducible refine (event_May.calls a1_0 a1_1 _ _ l1_2 _ _ l1_3 t110 _ ?side1 ?side2 ?side3 ?side4 A3.out).mono ?_); (case side1 => repeat (first | exact (Kd.C_below HR1_2.out HB.out) | (with_reducible refine Kd.C_alloc ?_ _) | (with_reducible refine Kd.C_drewN ?_ _) | (with_reducible refine Kd.C_drew ?_))); (case side2 => exact HC1_2.out); (case side3 => repeat (first | exact (Kd.C_below HR1_3.out HB.out) | (with_reducible refine Kd.C_alloc ?_ _) | (with_reducible refine Kd.C_drewN ?_ _) | (with_reducible refine Kd.C_drew ?_))); (case side4 => exact HC1_3.out); rintro e w10 ⟨rfl, hb⟩; refine ⟨_, rfl, ?_⟩; have n0_ := Aside0.mk (blk_below (g := gb109) (o := .cells #[.string a1_0, .string a1_1, .slice A1_2 l1_2.length c1_2, .slice A1_3 l1_3.length c1_3] 40 (0, 0)) (by (with_reducible repeat (first | refine blk_drewN ?_ _ | refine blk_drew ?_ | refine blk_alloc ?_ _)); exact BK109.out) hb); have n1_ := Aside0.mk (below_step (by repeat (first | (with_reducible first | exact HB.out | apply below_alloc | apply pw_below_drewN | apply below_drew1 | refine below_set ?_ GE109.out) | exact HB.out)) hb); clear BK109; clear HB; have BK109 := n0_; have HB := n1_; clear n0_ n1_; (try clear hb); (try clear hb2); (try clear hk); (try clear hi)))
    have n0_ := Aside0.mk (blk_drew BK109.out)
    have n1_ := Aside0.mk (below_drew1 HB.out)
    clear BK109
    clear HB
    have BK109 := n0_
    have HB := n1_
    clear n0_ n1_
    refine start_ (n := 8) (S := fun w' => w'.cell? ⟨gb109, 0, none⟩ = some (.string a1_0) ∧ w'.cell? ⟨gb109, 1, none⟩ = some (.string a1_1) ∧ w'.cell? ⟨gb109, 2, none⟩ = some (.slice A1_2 l1_2.length c1_2) ∧ w'.cell? ⟨gb109, 3, none⟩ = some (.slice A1_3 l1_3.length c1_3)) (ds := []) #[false, false, false, false, false, false, false, false] (by kernel_rfl) rfl rfl ⟨(blk_cell BK109.out 0).trans rfl, (blk_cell BK109.out 1).trans rfl, (blk_cell BK109.out 2).trans rfl, (blk_cell BK109.out 3).trans rfl⟩ (fun hHeld => ?_); refine with_tabW evcode_Put.tab4 evcode_Put.bits4 (fun HT_ HW_ => ?_)
    generalize w10.drew = w11 at BK109 HB hHeld ⊢
    refine pure_ (i := 0) (N := some 17) (v := ?_) (a' := ?_) #[true, false, false, false, false, false, false, false] rfl rfl (any_of HT_.out (by kernel_rfl)) (fun _ _ _ h => h) (Or.inl ⟨by rfl, ?_⟩) ?_ ?_
    rotate_left
    · intro w'
      go_simp
      with_reducible rfl
    rotate_left
    · simp only [Act.put, List.setIfInBounds_toArray, List.set_cons_zero, List.set_cons_succ, i64_w, i32_w]
      rfl
    refine pure_ (i := 1) (N := some 18) (v := ?_) (a' := ?_) #[true, true, false, false, false, false, false, false] rfl rfl (any_of HT_.out (by kernel_rfl)) (fun _ _ _ h => h) (Or.inl ⟨by rfl, ?_⟩) ?_ ?_
    rotate_left
    · intro w'
      go_simp
      with_reducible rfl
    rotate_left
    · simp only [Act.put, List.setIfInBounds_toArray, List.set_cons_zero, List.set_cons_succ, i64_w, i32_w]
      rfl
    refine pure_ (i := 4) (N := some 21) (v := ?_) (a' := ?_) #[true, true, false, false, true, false, false, false] rfl rfl (any_of HT_.out (by kernel_rfl)) (fun _ _ _ h => h) (Or.inl ⟨by rfl, ?_⟩) ?_ ?_
    rotate_left
    · intro w'
      go_simp
      with_reducible rfl
    rotate_left
    · simp only [Act.put, List.setIfInBounds_toArray, List.set_cons_zero, List.set_cons_succ, i64_w, i32_w]
      rfl
    refine take_ (i := 2) (N := some 19) (v := ?_) (a' := ?_) #[true, true, true, false, true, false, false, false] rfl rfl (take_ofW HT_.out HW_.out (by kernel_rfl)) (fun _ _ _ h => h) (Or.inl ⟨by rfl, ?_⟩) hHeld ?_ ?_
    rotate_left
    · rintro w' ⟨s0, s1, s2, s3⟩
      go_simp
      with_reducible rfl
    rotate_left
    · simp only [Act.put, List.setIfInBounds_toArray, List.set_cons_zero, List.set_cons_succ, i64_w, i32_w]
      rfl
    refine take_ (i := 5) (N := some 22) (v := ?_) (a' := ?_) #[true, true, true, false, true, true, false, false] rfl rfl (take_ofW HT_.out HW_.out (by kernel_rfl)) (fun _ _ _ h => h) (Or.inl ⟨by rfl, ?_⟩) hHeld ?_ ?_
    rotate_left
    · rintro w' ⟨s0, s1, s2, s3⟩
      go_simp
      with_reducible rfl
    rotate_left
    · simp only [Act.put, List.setIfInBounds_toArray, List.set_cons_zero, List.set_cons_succ, i64_w, i32_w]
      rfl
    refine one_ (i := 3) (N := some 20) #[true, true, true, true, true, true, false, false] rfl rfl (one_of HT_.out (by kernel_rfl)) (by decide) (fun K hK => ?_)
    refine goes_ Try.func25 (by kernel_rfl) rfl #[.slice A0 l0.length c0, .string a1_0] (by rfl) rfl rfl (by (try simp only [List.map_toArray, List.map_cons, List.map_nil]); first | done | rfl | (simp only [List.length_drop, List.length_take]; rfl)) ?_
    with_reducible refine (num_PutText.calls _ _ l0 a1_0 t111 _ ?side1 ?side2 A5.out).mono ?_
    (case side1 => repeat (first | exact (Kd.C_below HR0.out HB.out) | (with_reducible refine Kd.C_alloc ?_ _) | (with_reducible refine Kd.C_drewN ?_ _) | (with_reducible refine Kd.C_drew ?_)))
    (case side2 => exact HC0.out)
    rintro e w12 ⟨v112, rfl, ho0, hb⟩
    refine ⟨_, rfl, ?_⟩
    have n0_ := Aside0.mk (Kd.R_lower ho0 (below_size (by repeat (first | (with_reducible first | exact HB.out | apply below_alloc | apply pw_below_drewN | apply below_drew1 | refine below_set ?_ GE109.out) | exact HB.out))))
    have n1_ := Aside0.mk (blk_below (g := gb109) (o := .cells #[.string a1_0, .string a1_1, .slice A1_2 l1_2.length c1_2, .slice A1_3 l1_3.length c1_3] 40 (0, 0)) (by (with_reducible repeat (first | refine blk_drewN ?_ _ | refine blk_drew ?_ | refine blk_alloc ?_ _)); exact BK109.out) hb)
    have n2_ := Aside0.mk (below_step (by repeat (first | (with_reducible first | exact HB.out | apply below_alloc | apply pw_below_drewN | apply below_drew1 | refine below_set ?_ GE109.out) | exact HB.out)) hb)
    clear BK109
    clear HB
    have HO113 := n0_
    have BK109 := n1_
    have HB := n2_
    clear n0_ n1_ n2_
    (try clear hb)
    (try clear hb2)
    (try clear hk)
    (try clear hi)
    (try clear ho0)
    obtain ⟨Ao13, co13, eo13⟩ := Kd.R_slice HO113.out
    (first | subst eo13 | (injection eo13 with f1_ f2_ f3_; have f4_ := f1_.symm; have f5_ := f3_.symm; clear f1_ f2_ f3_; subst f4_; subst f5_))
    refine hK.out _ _ ⟨(blk_cell BK109.out 0).trans rfl, (blk_cell BK109.out 1).trans rfl, (blk_cell BK109.out 2).trans rfl, (blk_cell BK109.out 3).trans rfl⟩ (fun hHeld => ?_)
    clear hK K
    refine norm_ (a' := ?_) ?_ ?_
    rotate_left
    · show Act.put _ (some 20) _ = _
      simp only [Act.put, List.setIfInBounds_toArray, List.set_cons_zero, List.set_cons_succ, i64_w, i32_w]
      rfl
    refine one_ (i := 6) (N := some 23) #[true, true, true, true, true, true, true, false] rfl rfl (one_of HT_.out (by kernel_rfl)) (by decide) (fun K hK => ?_)
    refine goes_ Try.func25 (by kernel_rfl) rfl #[.slice Ao13 t111.length co13, .string a1_1] (by rfl) rfl rfl (by (try simp only [List.map_toArray, List.map_cons, List.map_nil]); first | done | rfl | (simp only [List.length_drop, List.length_take]; rfl)) ?_
    with_reducible refine (num_PutText.calls _ _ t111 a1_1 t114 _ ?side1 ?side2 A6.out).mono ?_
    (case side1 => repeat (first | exact (Kd.R_reads' HO113.out).2.2 | (with_reducible refine Kd.C_alloc ?_ _) | (with_reducible refine Kd.C_drewN ?_ _) | (with_reducible refine Kd.C_drew ?_)))
    (case side2 => exact (Kd.R_reads' HO113.out).2.1)
    rintro e w14 ⟨v115, rfl, ho0, hb⟩
    refine ⟨_, rfl, ?_⟩
    have n0_ := Aside0.mk (Kd.R_elder' (by (with_reducible repeat (first | apply Kd.R_alloc | apply Kd.R_drewN | apply Kd.R_drew)); exact HO113.out) (Kd.R_base ho0) hb)
    have n1_ := Aside0.mk (Kd.R_lower (Kd.R_new' ho0 (Kd.R_lt (by (with_reducible repeat (first | apply Kd.R_alloc | apply Kd.R_drewN | apply Kd.R_drew)); exact HO113.out))) (below_size (by repeat (first | (with_reducible first | exact HB.out | apply below_alloc | apply pw_below_drewN | apply below_drew1 | refine below_set ?_ GE109.out) | exact HB.out))))
    have n2_ := Aside0.mk (blk_below (g := gb109) (o := .cells #[.string a1_0, .string a1_1, .slice A1_2 l1_2.length c1_2, .slice A1_3 l1_3.length c1_3] 40 (0, 0)) (by (with_reducible repeat (first | refine blk_drewN ?_ _ | refine blk_drew ?_ | refine blk_alloc ?_ _)); exact BK109.out) hb)
    have n3_ := Aside0.mk (below_step (by repeat (first | (with_reducible first | exact HB.out | apply below_alloc | apply pw_below_drewN | apply below_drew1 | refine below_set ?_ GE109.out) | exact HB.out)) hb)
    clear HO113
    clear BK109
    clear HB
    have HO113 := n0_
    have HO116 := n1_
    have BK109 := n2_
    have HB := n3_
    clear n0_ n1_ n2_ n3_
    (try clear hb)
    (try clear hb2)
    (try clear hk)
    (try clear hi)
    (try clear ho0)
    refine hK.out _ _ ⟨(blk_cell BK109.out 0).trans rfl, (blk_cell BK109.out 1).trans rfl, (blk_cell BK109.out 2).trans rfl, (blk_cell BK109.out 3).trans rfl⟩ (fun hHeld => ?_)
    clear hK K
    refine norm_ (a' := ?_) ?_ ?_
    rotate_left
    · show Act.put _ (some 23) _ = _
      simp only [Act.put, List.setIfInBounds_toArray, List.set_cons_zero, List.set_cons_succ, i64_w, i32_w]
      rfl
    refine pure_ (i := 7) (N := some 7) (v := ?_) (a' := ?_) #[true, true, true, true, true, true, true, true] rfl rfl (any_of HT_.out (by kernel_rfl)) (fun _ _ _ h => h) (Or.inl ⟨by rfl, ?_⟩) ?_ ?_
    rotate_left
    · intro w'
      go_simp
      with_reducible rfl
    rotate_left
    · simp only [Act.put, List.setIfInBounds_toArray, List.set_cons_zero, List.set_cons_succ, i64_w, i32_w]
      rfl
    refine done_ (done_of HT_.out (by kernel_rfl)) ?_
    have hcz15_0 : w14.cell? ⟨gb109, 0, none⟩ = some (.string a1_0) := (blk_cell BK109.out 0).trans rfl
    have hcz15_1 : w14.cell? ⟨gb109, 1, none⟩ = some (.string a1_1) := (blk_cell BK109.out 1).trans rfl
    have hcz15_2 : w14.cell? ⟨gb109, 2, none⟩ = some (.slice A1_2 l1_2.length c1_2) := (blk_cell BK109.out 2).trans rfl
    have hcz15_3 : w14.cell? ⟨gb109, 3, none⟩ = some (.slice A1_3 l1_3.length c1_3) := (blk_cell BK109.out 3).trans rfl
    have hfz15_0 := blk_frozen BK109.out 0
    have hfz15_1 := blk_frozen BK109.out 1
    have hfz15_2 := blk_frozen BK109.out 2
    have hfz15_3 := blk_frozen BK109.out 3
    obtain ⟨Ao16, co16, eo16⟩ := Kd.R_slice HO116.out
    subst eo16
    try go_wp2_with (first | ((with_reducible refine gate_callee (f := 20) rfl ?_); refine goesL_ (some 28) rfl rfl Try.func20 (by kernel_rfl) rfl #[.slice Ao16 t114.length co16, .int .i64 (l1_2.length : Int)] rfl (by (try simp only [List.map_toArray, List.map_cons, List.map_nil]); first | done | rfl | (simp only [List.length_drop, List.length_take]; rfl)) ?_; (with_reducible refine (num_Put.calls _ _ t114 (l1_2.length : Int) t117 _ ?side1 ?side2 A7.out).mono ?_); (case side1 => repeat (first | exact (Kd.R_reads' HO116.out).2.2 | (with_reducible refine Kd.C_alloc ?_ _) | (with_reducible refine Kd.C_drewN ?_ _) | (with_reducible refine Kd.C_drew ?_))); (case side2 => exact (Kd.R_reads' HO116.out).2.1); rintro e w17 ⟨v118, rfl, ho0, hb⟩; refine ⟨_, rfl, ?_⟩; have n0_ := Aside0.mk (Kd.R_elder' (by (with_reducible repeat (first | apply Kd.R_alloc | apply Kd.R_drewN | apply Kd.R_drew)); exact HO113.out) (Kd.R_base ho0) hb); have n1_ := Aside0.mk (Kd.R_elder' (by (with_reducible repeat (first | apply Kd.R_alloc | apply Kd.R_drewN | apply Kd.R_drew)); exact HO116.out) (Kd.R_base ho0) hb); have n2_ := Aside0.mk (Kd.R_lower (Kd.R_new' (Kd.R_new' ho0 (Kd.R_lt (by (with_reducible repeat (first | apply Kd.R_alloc | apply Kd.R_drewN | apply Kd.R_drew)); exact HO113.out))) (Kd.R_lt (by (with_reducible repeat (first | apply Kd.R_alloc | apply Kd.R_drewN | apply Kd.R_drew)); exact HO116.out))) (below_size (by repeat (first | (with_reducible first | exact HB.out | apply below_alloc | apply pw_below_drewN | apply below_drew1 | refine below_set ?_ GE109.out) | exact HB.out)))); have n3_ := Aside0.mk (blk_below (g := gb109) (o := .cells #[.string a1_0, .string a1_1, .slice A1_2 l1_2.length c1_2, .slice A1_3 l1_3.length c1_3] 40 (0, 0)) (by (with_reducible repeat (first | refine blk_drewN ?_ _ | refine blk_drew ?_ | refine blk_alloc ?_ _)); exact BK109.out) hb); have n4_ := Aside0.mk (below_step (by repeat (first | (with_reducible first | exact HB.out | apply below_alloc | apply pw_below_drewN | apply below_drew1 | refine below_set ?_ GE109.out) | exact HB.out)) hb); clear HO113; clear HO116; clear BK109; clear HB; have HO113 := n0_; have HO116 := n1_; have HO119 := n2_; have BK109 := n3_; have HB := n4_; clear n0_ n1_ n2_ n3_ n4_; (try clear hb); (try clear hb2); (try clear hk); (try clear hi); (try clear ho0); have hcz18_0 : w17.cell? ⟨gb109, 0, none⟩ = some (.string a1_0) := (blk_cell BK109.out 0).trans rfl; have hcz18_1 : w17.cell? ⟨gb109, 1, none⟩ = some (.string a1_1) := (blk_cell BK109.out 1).trans rfl; have hcz18_2 : w17.cell? ⟨gb109, 2, none⟩ = some (.slice A1_2 l1_2.length c1_2) := (blk_cell BK109.out 2).trans rfl; have hcz18_3 : w17.cell? ⟨gb109, 3, none⟩ = some (.slice A1_3 l1_3.length c1_3) := (blk_cell BK109.out 3).trans rfl; have hfz18_0 := blk_frozen BK109.out 0; have hfz18_1 := blk_frozen BK109.out 1; have hfz18_2 := blk_frozen BK109.out 2; have hfz18_3 := blk_frozen BK109.out 3))
    go_loopg [7, 32] k (fun kq v7 v32 w' => ∃ (x7_1 : List Int) (x32_1 : Int), v32 = .int .i64 x32_1 ∧ Aside0 (evcode_Put.l0 kq x7_1 l1_2 (l1_2.length : Int) x32_1 a1_0 a1_1 l1_2 l1_3 = some (r1, r2)) ∧ Aside0 (kq ≤ k) ∧ Aside0 (Kd.R (Kd.int .u8) 5 w' w.heap.size (fun _ => True) v7 x7_1) ∧ Aside0 (w'.heap[gb109]? = some (.cells #[.string a1_0, .string a1_1, (.slice A1_2 l1_2.length c1_2), (.slice A1_3 l1_3.length c1_3)] 40 (0, 0))) ∧ Aside0 (Below w.heap.size w w'))
    case atStart => exact ⟨(t117), (0), (by first | rfl | (simp; done) | (simp [*]; done)), H', ⟨Nat.le_refl _⟩, ⟨by (with_reducible repeat (first | apply Kd.R_alloc | apply Kd.R_drewN | apply Kd.R_drew)); exact Kd.R_mono HO119.out (fun _ hk => trivial)⟩, ⟨by (with_reducible repeat (first | refine blk_drewN ?_ _ | refine blk_drew ?_ | refine blk_alloc ?_ _)); exact BK109.out⟩, ⟨by repeat (first | (with_reducible first | exact HB.out | apply below_alloc | apply pw_below_drewN | apply below_drew1 | refine below_set ?_ GE109.out) | exact HB.out)⟩⟩
    case round =>
      clear H'
      try clear c1
      try clear c2
      try clear p2
      try clear c4
      try clear c4b0
      try clear c4b1
      try clear c17
      try clear hcz15_0
      try clear hcz15_1
      try clear hcz15_2
      try clear hcz15_3
      try clear hcz18_0
      try clear hcz18_1
      try clear hcz18_2
      try clear hcz18_3
      try clear hcz9_0
      try clear hcz9_1
      try clear hcz9_2
      try clear hcz9_3
      try clear hfz15_0
      try clear hfz15_1
      try clear hfz15_2
      try clear hfz15_3
      try clear hfz18_0
      try clear hfz18_1
      try clear hfz18_2
      try clear hfz18_3
      try clear hfz9_0
      try clear hfz9_1
      try clear hfz9_2
      try clear hfz9_3
      obtain ⟨x7_1, x32_1, rfl, HA, HK1, HO_7, BK109, HB⟩ := hrel
      cases gk with
      | zero => exact absurd HA.out (by simp [evcode_Put.l0])
      | succ k1 =>
        have H := HA.out
        clear HA
        simp only [evcode_Put.l0] at H
        by_cases c19 : x32_1 < (l1_2.length : Int)
        · rw [if_pos c19] at H
          have c19b0 : decide (x32_1 < (l1_2.length : Int)) = true := decide_eq_true c19
          clear c19
          by_cases c20 : 0 ≤ x32_1
          · rw [if_pos c20] at H
            have c20b0 : decide (0 ≤ x32_1) = true := decide_eq_true c20
            clear c20
            by_cases c21 : x32_1 < (l1_2.length : Int)
            · rw [if_pos c21] at H
              have c21b0 : decide (x32_1 < (l1_2.length : Int)) = true := decide_eq_true c21
              clear c21
              replace H := Option.bind_eq_some_iff.mp H
              obtain ⟨t121, A220, H⟩ := H
              replace H : (evcode_Put.l0 k1 t121 l1_2 (l1_2.length : Int) (wrap64 (x32_1 + 1)) a1_0 a1_1 l1_2 l1_3) = some (r1, r2) := H
              have A22 := Aside0.mk A220
              clear A220
              have H' := Aside0.mk H
              clear H
              have p120 : 0 ≤ (x32_1 : Int) := of_decide_eq_true (by first | (with_reducible assumption) | assumption)
              have q120 : x32_1 < (l1_2.length : Int) := of_decide_eq_true (by first | (with_reducible assumption) | assumption)
              obtain ⟨ad120, e120, hx120_0⟩ := Kd.at_string HR1_2.out x32_1 p120 q120
              cases e120
              replace hx120_0 := (HB.out.cell (World.block_lt_of_cell? w _ hx120_0)).trans hx120_0
              replace p120 := eq_true p120
              replace q120 := eq_true q120
              obtain ⟨Ao23, co23, eo23⟩ := Kd.R_slice HO_7.out
              subst eo23
              go_wp2_with (first | ((with_reducible refine gate_callee (f := 25) rfl ?_); refine goesL_ (some 38) rfl rfl Try.func25 (by kernel_rfl) rfl #[.slice Ao23 x7_1.length co23, .string (rdOf ByteArray.empty l1_2 x32_1)] rfl (by (try simp only [List.map_toArray, List.map_cons, List.map_nil]); first | done | rfl | (simp only [List.length_drop, List.length_take]; rfl)) ?_; (with_reducible refine (num_PutText.calls _ _ x7_1 (rdOf ByteArray.empty l1_2 x32_1) t121 _ ?side1 ?side2 A22.out).mono ?_); (case side1 => repeat (first | exact (Kd.R_reads' HO_7.out).2.2 | (with_reducible refine Kd.C_alloc ?_ _) | (with_reducible refine Kd.C_drewN ?_ _) | (with_reducible refine Kd.C_drew ?_))); (case side2 => exact (Kd.R_reads' HO_7.out).2.1); rintro e w24 ⟨v122, rfl, ho0, hb⟩; refine ⟨_, rfl, ?_⟩; have n0_ := Aside0.mk (Kd.R_elder' (by (with_reducible repeat (first | apply Kd.R_alloc | apply Kd.R_drewN | apply Kd.R_drew)); exact HO_7.out) (Kd.R_base ho0) hb); have n1_ := Aside0.mk (Kd.R_lower (Kd.R_new' ho0 (Kd.R_lt (by (with_reducible repeat (first | apply Kd.R_alloc | apply Kd.R_drewN | apply Kd.R_drew)); exact HO_7.out))) (below_size (by repeat (first | (with_reducible first | exact HB.out | apply below_alloc | apply pw_below_drewN | apply below_drew1 | refine below_set ?_ GE109.out) | exact HB.out)))); have n2_ := Aside0.mk (blk_below (g := gb109) (o := .cells #[.string a1_0, .string a1_1, .slice (some ad120) l1_2.length c1_2, .slice A1_3 l1_3.length c1_3] 40 (0, 0)) (by (with_reducible repeat (first | refine blk_drewN ?_ _ | refine blk_drew ?_ | refine blk_alloc ?_ _)); exact BK109.out) hb); have n3_ := Aside0.mk (below_step (by repeat (first | (with_reducible first | exact HB.out | apply below_alloc | apply pw_below_drewN | apply below_drew1 | refine below_set ?_ GE109.out) | exact HB.out)) hb); clear HO_7; clear BK109; clear HB; have HO_7 := n0_; have HO123 := n1_; have BK109 := n2_; have HB := n3_; clear n0_ n1_ n2_ n3_; (try clear hb); (try clear hb2); (try clear hk); (try clear hi); (try clear ho0)))
              go_roundg k1
              case measure => have := HK1.out; omega
              case rel => exact ⟨(t121), (wrap64 (x32_1 + 1)), (by first | rfl | (simp; done) | (simp [*]; done)), H', ⟨by have := HK1.out; omega⟩, ⟨by (with_reducible repeat (first | apply Kd.R_alloc | apply Kd.R_drewN | apply Kd.R_drew)); exact Kd.R_mono HO123.out (fun _ hk => trivial)⟩, ⟨by (with_reducible repeat (first | refine blk_drewN ?_ _ | refine blk_drew ?_ | refine blk_alloc ?_ _)); exact BK109.out⟩, ⟨by repeat (first | (with_reducible first | exact HB.out | apply below_alloc | apply pw_below_drewN | apply below_drew1 | refine below_set ?_ GE109.out) | exact HB.out)⟩⟩
            · rw [if_neg c21] at H
              exact absurd H (by simp)
          · rw [if_neg c20] at H
            exact absurd H (by simp)
        · rw [if_neg c19] at H
          have c19b0 : decide (x32_1 < (l1_2.length : Int)) = false := decide_eq_false c19
          clear c19
          replace H := Option.bind_eq_some_iff.mp H
          obtain ⟨t124, A250, H⟩ := H
          replace H : (evcode_Put.l1 k1 t124 l1_3 (l1_3.length : Int) 0) = some (r1, r2) := H
          have A25 := Aside0.mk A250
          clear A250
          have H' := Aside0.mk H
          clear H
          have hcz26_0 : wr.cell? ⟨gb109, 0, none⟩ = some (.string a1_0) := (blk_cell BK109.out 0).trans rfl
          have hcz26_1 : wr.cell? ⟨gb109, 1, none⟩ = some (.string a1_1) := (blk_cell BK109.out 1).trans rfl
          have hcz26_2 : wr.cell? ⟨gb109, 2, none⟩ = some (.slice A1_2 l1_2.length c1_2) := (blk_cell BK109.out 2).trans rfl
          have hcz26_3 : wr.cell? ⟨gb109, 3, none⟩ = some (.slice A1_3 l1_3.length c1_3) := (blk_cell BK109.out 3).trans rfl
          have hfz26_0 := blk_frozen BK109.out 0
          have hfz26_1 := blk_frozen BK109.out 1
          have hfz26_2 := blk_frozen BK109.out 2
          have hfz26_3 := blk_frozen BK109.out 3
          obtain ⟨Ao27, co27, eo27⟩ := Kd.R_slice HO_7.out
          subst eo27
          go_wp2_with (first | ((with_reducible refine gate_callee (f := 20) rfl ?_); refine goesL_ (some 44) rfl rfl Try.func20 (by kernel_rfl) rfl #[.slice Ao27 x7_1.length co27, .int .i64 (l1_3.length : Int)] rfl (by (try simp only [List.map_toArray, List.map_cons, List.map_nil]); first | done | rfl | (simp only [List.length_drop, List.length_take]; rfl)) ?_; (with_reducible refine (num_Put.calls _ _ x7_1 (l1_3.length : Int) t124 _ ?side1 ?side2 A25.out).mono ?_); (case side1 => repeat (first | exact (Kd.R_reads' HO_7.out).2.2 | (with_reducible refine Kd.C_alloc ?_ _) | (with_reducible refine Kd.C_drewN ?_ _) | (with_reducible refine Kd.C_drew ?_))); (case side2 => exact (Kd.R_reads' HO_7.out).2.1); rintro e w28 ⟨v125, rfl, ho0, hb⟩; refine ⟨_, rfl, ?_⟩; have n0_ := Aside0.mk (Kd.R_elder' (by (with_reducible repeat (first | apply Kd.R_alloc | apply Kd.R_drewN | apply Kd.R_drew)); exact HO_7.out) (Kd.R_base ho0) hb); have n1_ := Aside0.mk (Kd.R_lower (Kd.R_new' ho0 (Kd.R_lt (by (with_reducible repeat (first | apply Kd.R_alloc | apply Kd.R_drewN | apply Kd.R_drew)); exact HO_7.out))) (below_size (by repeat (first | (with_reducible first | exact HB.out | apply below_alloc | apply pw_below_drewN | apply below_drew1 | refine below_set ?_ GE109.out) | exact HB.out)))); have n2_ := Aside0.mk (blk_below (g := gb109) (o := .cells #[.string a1_0, .string a1_1, .slice A1_2 l1_2.length c1_2, .slice A1_3 l1_3.length c1_3] 40 (0, 0)) (by (with_reducible repeat (first | refine blk_drewN ?_ _ | refine blk_drew ?_ | refine blk_alloc ?_ _)); exact BK109.out) hb); have n3_ := Aside0.mk (below_step (by repeat (first | (with_reducible first | exact HB.out | apply below_alloc | apply pw_below_drewN | apply below_drew1 | refine below_set ?_ GE109.out) | exact HB.out)) hb); clear HO_7; clear BK109; clear HB; have HO_7 := n0_; have HO126 := n1_; have BK109 := n2_; have HB := n3_; clear n0_ n1_ n2_ n3_; (try clear hb); (try clear hb2); (try clear hk); (try clear hi); (try clear ho0); have hcz29_0 : w28.cell? ⟨gb109, 0, none⟩ = some (.string a1_0) := (blk_cell BK109.out 0).trans rfl; have hcz29_1 : w28.cell? ⟨gb109, 1, none⟩ = some (.string a1_1) := (blk_cell BK109.out 1).trans rfl; have hcz29_2 : w28.cell? ⟨gb109, 2, none⟩ = some (.slice A1_2 l1_2.length c1_2) := (blk_cell BK109.out 2).trans rfl; have hcz29_3 : w28.cell? ⟨gb109, 3, none⟩ = some (.slice A1_3 l1_3.length c1_3) := (blk_cell BK109.out 3).trans rfl; have hfz29_0 := blk_frozen BK109.out 0; have hfz29_1 := blk_frozen BK109.out 1; have hfz29_2 := blk_frozen BK109.out 2; have hfz29_3 := blk_frozen BK109.out 3))
          go_loopg [7, 48] k1 (fun kq v7 v48 w' => ∃ (x7_2 : List Int) (x48_2 : Int), v48 = .int .i64 x48_2 ∧ Aside0 (evcode_Put.l1 kq x7_2 l1_3 (l1_3.length : Int) x48_2 = some (r1, r2)) ∧ Aside0 (kq ≤ k1) ∧ Aside0 (Kd.R (Kd.int .u8) 5 w' w.heap.size (fun _ => True) v7 x7_2) ∧ Aside0 (w'.heap[gb109]? = some (.cells #[.string a1_0, .string a1_1, (.slice A1_2 l1_2.length c1_2), (.slice A1_3 l1_3.length c1_3)] 40 (0, 0))) ∧ Aside0 (Below w.heap.size w w'))
          case atStart => exact ⟨(t124), (0), (by first | rfl | (simp; done) | (simp [*]; done)), H', ⟨Nat.le_refl _⟩, ⟨by (with_reducible repeat (first | apply Kd.R_alloc | apply Kd.R_drewN | apply Kd.R_drew)); exact Kd.R_mono HO126.out (fun _ hk => trivial)⟩, ⟨by (with_reducible repeat (first | refine blk_drewN ?_ _ | refine blk_drew ?_ | refine blk_alloc ?_ _)); exact BK109.out⟩, ⟨by repeat (first | (with_reducible first | exact HB.out | apply below_alloc | apply pw_below_drewN | apply below_drew1 | refine below_set ?_ GE109.out) | exact HB.out)⟩⟩
          case round =>
            clear H'
            try clear c1
            try clear p1
            try clear q1
            try clear hx1
            try clear c2
            try clear p2
            try clear c4
            try clear c4b0
            try clear c4b1
            try clear p6
            try clear p12
            try clear q12
            try clear hx12
            try clear c17
            try clear c19
            try clear c19b0
            try clear c20
            try clear c20b0
            try clear c21
            try clear c21b0
            try clear c22
            try clear c25
            try clear hcz15_0
            try clear hcz15_1
            try clear hcz15_2
            try clear hcz15_3
            try clear hcz18_0
            try clear hcz18_1
            try clear hcz18_2
            try clear hcz18_3
            try clear hcz26_0
            try clear hcz26_1
            try clear hcz26_2
            try clear hcz26_3
            try clear hcz29_0
            try clear hcz29_1
            try clear hcz29_2
            try clear hcz29_3
            try clear hcz9_0
            try clear hcz9_1
            try clear hcz9_2
            try clear hcz9_3
            try clear hfz15_0
            try clear hfz15_1
            try clear hfz15_2
            try clear hfz15_3
            try clear hfz18_0
            try clear hfz18_1
            try clear hfz18_2
            try clear hfz18_3
            try clear hfz26_0
            try clear hfz26_1
            try clear hfz26_2
            try clear hfz26_3
            try clear hfz29_0
            try clear hfz29_1
            try clear hfz29_2
            try clear hfz29_3
            try clear hfz9_0
            try clear hfz9_1
            try clear hfz9_2
            try clear hfz9_3
            try clear hx120_0
            try clear p120
            try clear p2
            try clear q120
            obtain ⟨x7_2, x48_2, rfl, HA, HK2, HO_7, BK109, HB⟩ := hrel
            cases gk with
            | zero => exact absurd HA.out (by simp [evcode_Put.l1])
            | succ k2 =>
              have H := HA.out
              clear HA
              simp only [evcode_Put.l1] at H
              by_cases c30 : x48_2 < (l1_3.length : Int)
              · rw [if_pos c30] at H
                have c30b0 : decide (x48_2 < (l1_3.length : Int)) = true := decide_eq_true c30
                clear c30
                by_cases c31 : 0 ≤ x48_2
                · rw [if_pos c31] at H
                  have c31b0 : decide (0 ≤ x48_2) = true := decide_eq_true c31
                  clear c31
                  by_cases c32 : x48_2 < (l1_3.length : Int)
                  · rw [if_pos c32] at H
                    have c32b0 : decide (x48_2 < (l1_3.length : Int)) = true := decide_eq_true c32
                    clear c32
                    replace H := Option.bind_eq_some_iff.mp H
                    obtain ⟨t129, A330, H⟩ := H
                    replace H : ((num_Put.f t129 ((rd_T50 l1_3 x48_2).f1)).bind fun t132 => (evcode_Put.l1 k2 t132 l1_3 (l1_3.length : Int) (wrap64 (x48_2 + 1)))) = some (r1, r2) := H
                    have A33 := Aside0.mk A330
                    clear A330
                    replace H := Option.bind_eq_some_iff.mp H
                    obtain ⟨t132, A340, H⟩ := H
                    replace H : (evcode_Put.l1 k2 t132 l1_3 (l1_3.length : Int) (wrap64 (x48_2 + 1))) = some (r1, r2) := H
                    have A34 := Aside0.mk A340
                    clear A340
                    have H' := Aside0.mk H
                    clear H
                    have p127 : 0 ≤ (x48_2 : Int) := of_decide_eq_true (by first | (with_reducible assumption) | assumption)
                    have q127 : x48_2 < (l1_3.length : Int) := of_decide_eq_true (by first | (with_reducible assumption) | assumption)
                    obtain ⟨ad127, e127, hx127_0, hx127_1⟩ := at_T50 HR1_3.out x48_2 p127 q127
                    cases e127
                    replace hx127_0 := (HB.out.cell (World.block_lt_of_cell? w _ hx127_0)).trans hx127_0
                    replace hx127_1 := (HB.out.cell (World.block_lt_of_cell? w _ hx127_1)).trans hx127_1
                    replace p127 := eq_true p127
                    replace q127 := eq_true q127
                    try go_wp2_with (first | ((with_reducible refine gate_dst (N := 11) rfl ?_); refine box_event ?hg (N := 11) ?hd (cs := #[.string (⟨#[]⟩ : ByteArray), .int .i64 0]) (t := 50) ?hr ?_; (case hd => rfl); (case hg => rfl); (case hr => first | (go_simp; done) | (go_simp; rfl)); intro gb128 hg w35 hbox hb; have n0_ := Aside0.mk (Kd.R_below (by (with_reducible repeat (first | apply Kd.R_alloc | apply Kd.R_drewN | apply Kd.R_drew)); exact HO_7.out) hb); have n1_ := Aside0.mk (blk_below (g := gb109) (o := .cells #[.string a1_0, .string a1_1, .slice A1_2 l1_2.length c1_2, .slice (some ad127) l1_3.length c1_3] 40 (0, 0)) (by (with_reducible repeat (first | refine blk_drewN ?_ _ | refine blk_drew ?_ | refine blk_alloc ?_ _)); exact BK109.out) hb); have n2_ := Aside0.mk (below_step (by repeat (first | (with_reducible first | exact HB.out | apply below_alloc | apply pw_below_drewN | apply below_drew1 | refine below_set ?_ GE109.out) | exact HB.out)) hb); have n3_ := Aside0.mk (hbox); have n4_ := Aside0.mk ((by rw [hg]; exact (below_size (by repeat (first | (with_reducible first | exact HB.out | apply below_alloc | apply pw_below_drewN | apply below_drew1 | refine below_set ?_ GE109.out) | exact HB.out))) : w.heap.size ≤ gb128)); have n5_ := Aside0.mk ((by rw [hg]; exact (below_size (by repeat (first | (with_reducible first | exact HB.out | apply below_alloc | apply pw_below_drewN | apply below_drew1 | refine below_set ?_ GE109.out) | exact HB.out))) : w.heap.size ≤ gb128)); have n6_ := Aside0.mk ((by rw [hg]; exact Nat.ne_of_lt (blk_lt (g := gb109) (o := .cells #[.string a1_0, .string a1_1, .slice A1_2 l1_2.length c1_2, .slice (some ad127) l1_3.length c1_3] 40 (0, 0)) (by (with_reducible repeat (first | refine blk_drewN ?_ _ | refine blk_drew ?_ | refine blk_alloc ?_ _)); exact BK109.out)) : gb109 ≠ gb128)); have n7_ := Aside0.mk ((by rw [hg]; exact Nat.ne_of_gt (blk_lt (g := gb109) (o := .cells #[.string a1_0, .string a1_1, .slice A1_2 l1_2.length c1_2, .slice (some ad127) l1_3.length c1_3] 40 (0, 0)) (by (with_reducible repeat (first | refine blk_drewN ?_ _ | refine blk_drew ?_ | refine blk_alloc ?_ _)); exact BK109.out)) : gb128 ≠ gb109)); clear HO_7; clear BK109; clear HB; have HO_7 := n0_; have BK109 := n1_; have HB := n2_; have BK128 := n3_; have GW128 := n4_; have GE128 := n5_; have NB109_128 := n6_; have NB128_109 := n7_; clear n0_ n1_ n2_ n3_ n4_ n5_ n6_ n7_; clear hb hbox hg; have hnb36 := NB128_109.out; have hnc36 := NB109_128.out; have hcz37_0 : w35.cell? ⟨gb128, 0, none⟩ = some (.string (⟨#[]⟩ : ByteArray)) := (blk_cell BK128.out 0).trans rfl; have hcz37_1 : w35.cell? ⟨gb128, 1, none⟩ = some (.int .i64 0) := (blk_cell BK128.out 1).trans rfl; have hfz37_0 := blk_frozen BK128.out 0; have hfz37_1 := blk_frozen BK128.out 1))
                    have n0_ : Aside0 (Kd.R (Kd.int .u8) 5 ((w35.setCell ⟨gb128, 0, none⟩ (.string ((rd_T50 l1_3 x48_2).f0))).setCell ⟨gb128, 1, none⟩ (.int .i64 ((rd_T50 l1_3 x48_2).f1))) w.heap.size (fun _ => True) u7 x7_2) := ⟨by (with_reducible repeat (first | apply Kd.R_alloc | apply Kd.R_drewN | apply Kd.R_drew)); exact Kd.R_mono (Kd.R_far (p := ⟨gb128, 1, none⟩) (Kd.R_far (p := ⟨gb128, 0, none⟩) (Kd.R_types HO_7.out BK128.out (by decide)) (fun _ hk => hk.2) (.string ((rd_T50 l1_3 x48_2).f0))) (fun _ hk => hk.2) (.int .i64 ((rd_T50 l1_3 x48_2).f1))) (fun _ hk => trivial)⟩
                    have n1_ : Aside0 (((w35.setCell ⟨gb128, 0, none⟩ (.string ((rd_T50 l1_3 x48_2).f0))).setCell ⟨gb128, 1, none⟩ (.int .i64 ((rd_T50 l1_3 x48_2).f1))).heap[gb109]? = some (.cells #[.string a1_0, .string a1_1, .slice A1_2 l1_2.length c1_2, .slice (some ad127) l1_3.length c1_3] 40 (0, 0))) := ⟨by (with_reducible repeat (first | refine blk_drewN ?_ _ | refine blk_drew ?_ | refine blk_alloc ?_ _)); refine blk_far ?_ NB109_128.out _; (with_reducible repeat (first | refine blk_drewN ?_ _ | refine blk_drew ?_ | refine blk_alloc ?_ _)); refine blk_far ?_ NB109_128.out _; (with_reducible repeat (first | refine blk_drewN ?_ _ | refine blk_drew ?_ | refine blk_alloc ?_ _)); exact BK109.out⟩
                    have n2_ : Aside0 (((w35.setCell ⟨gb128, 0, none⟩ (.string ((rd_T50 l1_3 x48_2).f0))).setCell ⟨gb128, 1, none⟩ (.int .i64 ((rd_T50 l1_3 x48_2).f1))).heap[gb128]? = some (.cells #[.string ((rd_T50 l1_3 x48_2).f0), .int .i64 ((rd_T50 l1_3 x48_2).f1)] 50 (0, 0))) := ⟨by (with_reducible repeat (first | refine blk_drewN ?_ _ | refine blk_drew ?_ | refine blk_alloc ?_ _)); refine blk_put (cs := #[.string ((rd_T50 l1_3 x48_2).f0), .int .i64 0]) ?_ 1 _ rfl; (with_reducible repeat (first | refine blk_drewN ?_ _ | refine blk_drew ?_ | refine blk_alloc ?_ _)); refine blk_put (cs := #[.string (⟨#[]⟩ : ByteArray), .int .i64 0]) ?_ 0 _ rfl; (with_reducible repeat (first | refine blk_drewN ?_ _ | refine blk_drew ?_ | refine blk_alloc ?_ _)); exact BK128.out⟩
                    have n3_ : Aside0 (Below w.heap.size w ((w35.setCell ⟨gb128, 0, none⟩ (.string ((rd_T50 l1_3 x48_2).f0))).setCell ⟨gb128, 1, none⟩ (.int .i64 ((rd_T50 l1_3 x48_2).f1)))) := ⟨by repeat (first | (with_reducible first | exact HB.out | apply below_alloc | apply pw_below_drewN | apply below_drew1 | refine below_set ?_ GE109.out | refine below_set ?_ GE128.out) | exact HB.out)⟩
                    (try clear HO_7)
                    (try clear BK109)
                    (try clear BK128)
                    (try clear HB)
                    generalize ((w35.setCell ⟨gb128, 0, none⟩ (.string ((rd_T50 l1_3 x48_2).f0))).setCell ⟨gb128, 1, none⟩ (.int .i64 ((rd_T50 l1_3 x48_2).f1))) = w38 at n0_ n1_ n2_ n3_ ⊢
                    have HO_7 := n0_
                    have BK109 := n1_
                    have BK128 := n2_
                    have HB := n3_
                    clear n0_ n1_ n2_ n3_
                    have n0_ := Aside0.mk (Kd.R_drew HO_7.out)
                    have n1_ := Aside0.mk (blk_drew BK109.out)
                    have n2_ := Aside0.mk (blk_drew BK128.out)
                    have n3_ := Aside0.mk (below_drew1 HB.out)
                    clear HO_7
                    clear BK109
                    clear BK128
                    clear HB
                    have HO_7 := n0_
                    have BK109 := n1_
                    have BK128 := n2_
                    have HB := n3_
                    clear n0_ n1_ n2_ n3_
                    obtain ⟨Ao40, co40, eo40⟩ := Kd.R_slice HO_7.out
                    (first | subst eo40 | (injection eo40 with f1_ f2_ f3_; have f4_ := f1_.symm; have f5_ := f3_.symm; clear f1_ f2_ f3_; subst f4_; subst f5_))
                    refine start_ (n := 8) (S := fun w' => w'.cell? ⟨gb128, 0, none⟩ = some (.string ((rd_T50 l1_3 x48_2).f0)) ∧ w'.cell? ⟨gb128, 1, none⟩ = some (.int .i64 ((rd_T50 l1_3 x48_2).f1))) (ds := []) #[false, false, false, false, false, false, false, false] (by kernel_rfl) rfl rfl ⟨(blk_cell BK128.out 0).trans rfl, (blk_cell BK128.out 1).trans rfl⟩ (fun hHeld => ?_); refine with_tabW evcode_Put.tab15 evcode_Put.bits15 (fun HT_ HW_ => ?_)
                    generalize w38.drew = w39 at HO_7 BK109 BK128 HB hHeld ⊢
                    refine pure_ (i := 0) (N := some 52) (v := ?_) (a' := ?_) #[true, false, false, false, false, false, false, false] rfl rfl (any_of HT_.out (by kernel_rfl)) (fun _ _ _ h => h) (Or.inl ⟨by rfl, ?_⟩) ?_ ?_
                    rotate_left
                    · intro w'
                      go_simp
                      with_reducible rfl
                    rotate_left
                    · simp only [Act.put, List.setIfInBounds_toArray, List.set_cons_zero, List.set_cons_succ, i64_w, i32_w]
                      rfl
                    refine pure_ (i := 1) (N := some 53) (v := ?_) (a' := ?_) #[true, true, false, false, false, false, false, false] rfl rfl (any_of HT_.out (by kernel_rfl)) (fun _ _ _ h => h) (Or.inl ⟨by rfl, ?_⟩) ?_ ?_
                    rotate_left
                    · intro w'
                      go_simp
                      with_reducible rfl
                    rotate_left
                    · simp only [Act.put, List.setIfInBounds_toArray, List.set_cons_zero, List.set_cons_succ, i64_w, i32_w]
                      rfl
                    refine pure_ (i := 4) (N := some 56) (v := ?_) (a' := ?_) #[true, true, false, false, true, false, false, false] rfl rfl (any_of HT_.out (by kernel_rfl)) (fun _ _ _ h => h) (Or.inl ⟨by rfl, ?_⟩) ?_ ?_
                    rotate_left
                    · intro w'
                      go_simp
                      with_reducible rfl
                    rotate_left
                    · simp only [Act.put, List.setIfInBounds_toArray, List.set_cons_zero, List.set_cons_succ, i64_w, i32_w]
                      rfl
                    refine take_ (i := 2) (N := some 54) (v := ?_) (a' := ?_) #[true, true, true, false, true, false, false, false] rfl rfl (take_ofW HT_.out HW_.out (by kernel_rfl)) (fun _ _ _ h => h) (Or.inl ⟨by rfl, ?_⟩) hHeld ?_ ?_
                    rotate_left
                    · rintro w' ⟨s0, s1⟩
                      go_simp
                      with_reducible rfl
                    rotate_left
                    · simp only [Act.put, List.setIfInBounds_toArray, List.set_cons_zero, List.set_cons_succ, i64_w, i32_w]
                      rfl
                    refine take_ (i := 5) (N := some 57) (v := ?_) (a' := ?_) #[true, true, true, false, true, true, false, false] rfl rfl (take_ofW HT_.out HW_.out (by kernel_rfl)) (fun _ _ _ h => h) (Or.inl ⟨by rfl, ?_⟩) hHeld ?_ ?_
                    rotate_left
                    · rintro w' ⟨s0, s1⟩
                      go_simp
                      with_reducible rfl
                    rotate_left
                    · simp only [Act.put, List.setIfInBounds_toArray, List.set_cons_zero, List.set_cons_succ, i64_w, i32_w]
                      rfl
                    refine one_ (i := 3) (N := some 55) #[true, true, true, true, true, true, false, false] rfl rfl (one_of HT_.out (by kernel_rfl)) (by decide) (fun K hK => ?_)
                    refine goes_ Try.func25 (by kernel_rfl) rfl #[.slice Ao40 x7_2.length co40, .string ((rd_T50 l1_3 x48_2).f0)] (by rfl) rfl rfl (by (try simp only [List.map_toArray, List.map_cons, List.map_nil]); first | done | rfl | (simp only [List.length_drop, List.length_take]; rfl)) ?_
                    with_reducible refine (num_PutText.calls _ _ x7_2 ((rd_T50 l1_3 x48_2).f0) t129 _ ?side1 ?side2 A33.out).mono ?_
                    (case side1 => repeat (first | exact (Kd.R_reads' HO_7.out).2.2 | (with_reducible refine Kd.C_alloc ?_ _) | (with_reducible refine Kd.C_drewN ?_ _) | (with_reducible refine Kd.C_drew ?_)))
                    (case side2 => exact (Kd.R_reads' HO_7.out).2.1)
                    rintro e w41 ⟨v130, rfl, ho0, hb⟩
                    refine ⟨_, rfl, ?_⟩
                    have n0_ := Aside0.mk (Kd.R_elder' (by (with_reducible repeat (first | apply Kd.R_alloc | apply Kd.R_drewN | apply Kd.R_drew)); exact HO_7.out) (Kd.R_base ho0) hb)
                    have n1_ := Aside0.mk (Kd.R_lower (Kd.R_new' ho0 (Kd.R_lt (by (with_reducible repeat (first | apply Kd.R_alloc | apply Kd.R_drewN | apply Kd.R_drew)); exact HO_7.out))) (below_size (by repeat (first | (with_reducible first | exact HB.out | apply below_alloc | apply pw_below_drewN | apply below_drew1 | refine below_set ?_ GE109.out | refine below_set ?_ GE128.out) | exact HB.out))))
                    have n2_ := Aside0.mk (blk_below (g := gb109) (o := .cells #[.string a1_0, .string a1_1, .slice A1_2 l1_2.length c1_2, .slice (some ad127) l1_3.length c1_3] 40 (0, 0)) (by (with_reducible repeat (first | refine blk_drewN ?_ _ | refine blk_drew ?_ | refine blk_alloc ?_ _)); exact BK109.out) hb)
                    have n3_ := Aside0.mk (blk_below (g := gb128) (o := .cells #[.string ((rd_T50 l1_3 x48_2).f0), .int .i64 ((rd_T50 l1_3 x48_2).f1)] 50 (0, 0)) (by (with_reducible repeat (first | refine blk_drewN ?_ _ | refine blk_drew ?_ | refine blk_alloc ?_ _)); exact BK128.out) hb)
                    have n4_ := Aside0.mk (below_step (by repeat (first | (with_reducible first | exact HB.out | apply below_alloc | apply pw_below_drewN | apply below_drew1 | refine below_set ?_ GE109.out | refine below_set ?_ GE128.out) | exact HB.out)) hb)
                    clear HO_7
                    clear BK109
                    clear BK128
                    clear HB
                    have HO_7 := n0_
                    have HO131 := n1_
                    have BK109 := n2_
                    have BK128 := n3_
                    have HB := n4_
                    clear n0_ n1_ n2_ n3_ n4_
                    (try clear hb)
                    (try clear hb2)
                    (try clear hk)
                    (try clear hi)
                    (try clear ho0)
                    obtain ⟨Ao42, co42, eo42⟩ := Kd.R_slice HO131.out
                    (first | subst eo42 | (injection eo42 with f1_ f2_ f3_; have f4_ := f1_.symm; have f5_ := f3_.symm; clear f1_ f2_ f3_; subst f4_; subst f5_))
                    refine hK.out _ _ ⟨(blk_cell BK128.out 0).trans rfl, (blk_cell BK128.out 1).trans rfl⟩ (fun hHeld => ?_)
                    clear hK K
                    refine norm_ (a' := ?_) ?_ ?_
                    rotate_left
                    · show Act.put _ (some 55) _ = _
                      simp only [Act.put, List.setIfInBounds_toArray, List.set_cons_zero, List.set_cons_succ, i64_w, i32_w]
                      rfl
                    refine one_ (i := 6) (N := some 58) #[true, true, true, true, true, true, true, false] rfl rfl (one_of HT_.out (by kernel_rfl)) (by decide) (fun K hK => ?_)
                    refine goes_ Try.func20 (by kernel_rfl) rfl #[.slice Ao42 t129.length co42, .int .i64 ((rd_T50 l1_3 x48_2).f1)] (by rfl) rfl rfl (by (try simp only [List.map_toArray, List.map_cons, List.map_nil]); first | done | rfl | (simp only [List.length_drop, List.length_take]; rfl)) ?_
                    with_reducible refine (num_Put.calls _ _ t129 ((rd_T50 l1_3 x48_2).f1) t132 _ ?side1 ?side2 A34.out).mono ?_
                    (case side1 => repeat (first | exact (Kd.R_reads' HO131.out).2.2 | (with_reducible refine Kd.C_alloc ?_ _) | (with_reducible refine Kd.C_drewN ?_ _) | (with_reducible refine Kd.C_drew ?_)))
                    (case side2 => exact (Kd.R_reads' HO131.out).2.1)
                    rintro e w43 ⟨v133, rfl, ho0, hb⟩
                    refine ⟨_, rfl, ?_⟩
                    have n0_ := Aside0.mk (Kd.R_elder' (by (with_reducible repeat (first | apply Kd.R_alloc | apply Kd.R_drewN | apply Kd.R_drew)); exact HO_7.out) (Kd.R_base ho0) hb)
                    have n1_ := Aside0.mk (Kd.R_elder' (by (with_reducible repeat (first | apply Kd.R_alloc | apply Kd.R_drewN | apply Kd.R_drew)); exact HO131.out) (Kd.R_base ho0) hb)
                    have n2_ := Aside0.mk (Kd.R_lower (Kd.R_new' (Kd.R_new' ho0 (Kd.R_lt (by (with_reducible repeat (first | apply Kd.R_alloc | apply Kd.R_drewN | apply Kd.R_drew)); exact HO_7.out))) (Kd.R_lt (by (with_reducible repeat (first | apply Kd.R_alloc | apply Kd.R_drewN | apply Kd.R_drew)); exact HO131.out))) (below_size (by repeat (first | (with_reducible first | exact HB.out | apply below_alloc | apply pw_below_drewN | apply below_drew1 | refine below_set ?_ GE109.out | refine below_set ?_ GE128.out) | exact HB.out))))
                    have n3_ := Aside0.mk (blk_below (g := gb109) (o := .cells #[.string a1_0, .string a1_1, .slice A1_2 l1_2.length c1_2, .slice (some ad127) l1_3.length c1_3] 40 (0, 0)) (by (with_reducible repeat (first | refine blk_drewN ?_ _ | refine blk_drew ?_ | refine blk_alloc ?_ _)); exact BK109.out) hb)
                    have n4_ := Aside0.mk (blk_below (g := gb128) (o := .cells #[.string ((rd_T50 l1_3 x48_2).f0), .int .i64 ((rd_T50 l1_3 x48_2).f1)] 50 (0, 0)) (by (with_reducible repeat (first | refine blk_drewN ?_ _ | refine blk_drew ?_ | refine blk_alloc ?_ _)); exact BK128.out) hb)
                    have n5_ := Aside0.mk (below_step (by repeat (first | (with_reducible first | exact HB.out | apply below_alloc | apply pw_below_drewN | apply below_drew1 | refine below_set ?_ GE109.out | refine below_set ?_ GE128.out) | exact HB.out)) hb)
                    clear HO_7
                    clear HO131
                    clear BK109
                    clear BK128
                    clear HB
                    have HO_7 := n0_
                    have HO131 := n1_
                    have HO134 := n2_
                    have BK109 := n3_
                    have BK128 := n4_
                    have HB := n5_
                    clear n0_ n1_ n2_ n3_ n4_ n5_
                    (try clear hb)
                    (try clear hb2)
                    (try clear hk)
                    (try clear hi)
                    (try clear ho0)
                    refine hK.out _ _ ⟨(blk_cell BK128.out 0).trans rfl, (blk_cell BK128.out 1).trans rfl⟩ (fun hHeld => ?_)
                    clear hK K
                    refine norm_ (a' := ?_) ?_ ?_
                    rotate_left
                    · show Act.put _ (some 58) _ = _
                      simp only [Act.put, List.setIfInBounds_toArray, List.set_cons_zero, List.set_cons_succ, i64_w, i32_w]
                      rfl
                    refine pure_ (i := 7) (N := some 7) (v := ?_) (a' := ?_) #[true, true, true, true, true, true, true, true] rfl rfl (any_of HT_.out (by kernel_rfl)) (fun _ _ _ h => h) (Or.inl ⟨by rfl, ?_⟩) ?_ ?_
                    rotate_left
                    · intro w'
                      go_simp
                      with_reducible rfl
                    rotate_left
                    · simp only [Act.put, List.setIfInBounds_toArray, List.set_cons_zero, List.set_cons_succ, i64_w, i32_w]
                      rfl
                    refine done_ (done_of HT_.out (by kernel_rfl)) ?_
                    try go_wp2
                    go_roundg k2
                    case measure => have := HK1.out; have := HK2.out; omega
                    case rel => exact ⟨(t132), (wrap64 (x48_2 + 1)), (by first | rfl | (simp; done) | (simp [*]; done)), H', ⟨by have := HK1.out; have := HK2.out; omega⟩, ⟨by (with_reducible repeat (first | apply Kd.R_alloc | apply Kd.R_drewN | apply Kd.R_drew)); exact Kd.R_mono HO134.out (fun _ hk => trivial)⟩, ⟨by (with_reducible repeat (first | refine blk_drewN ?_ _ | refine blk_drew ?_ | refine blk_alloc ?_ _)); exact BK109.out⟩, ⟨by repeat (first | (with_reducible first | exact HB.out | apply below_alloc | apply pw_below_drewN | apply below_drew1 | refine below_set ?_ GE109.out | refine below_set ?_ GE128.out) | exact HB.out)⟩⟩
                  · rw [if_neg c32] at H
                    exact absurd H (by simp)
                · rw [if_neg c31] at H
                  exact absurd H (by simp)
              · rw [if_neg c30] at H
                have c30b0 : decide (x48_2 < (l1_3.length : Int)) = false := decide_eq_false c30
                clear c30
                simp only [Option.some.injEq, Prod.mk.injEq] at H
                obtain ⟨rfl, rfl⟩ := H
                go_wp2
                go_ret2
                exact ⟨_, by first | rfl | (simp [errW_none, errW_some] <;> rfl) | (simp [*, errW_none, errW_some] <;> rfl), by (with_reducible repeat (first | apply Kd.R_alloc | apply Kd.R_drewN | apply Kd.R_drew)); exact HO_7.out, by repeat (first | (with_reducible first | exact HB.out | apply below_alloc | apply pw_below_drewN | apply below_drew1 | refine below_set ?_ GE109.out) | exact HB.out)⟩
  · rw [if_neg c4] at H
    have c4b0 : (t110 == 0) = false := beq_eq_false_iff_ne.mpr c4
    have c4b1 : (t110 != 0) = true := bne_iff_ne.mpr c4
    simp only [Option.some.injEq, Prod.mk.injEq] at H
    obtain ⟨rfl, rfl⟩ := H
    go_enter Try.func17, Try.ntmps17
    go_wp2_with (first | ((with_reducible refine gate_dst (N := 3) rfl ?_); refine box_event ?hg (N := 3) ?hd (cs := #[.string a1_0, .string a1_1, .slice A1_2 l1_2.length c1_2, .slice A1_3 l1_3.length c1_3]) (t := 40) ?hr ?_; (case hd => rfl); (case hg => rfl); (case hr => first | (go_simp; done) | (go_simp; rfl)); intro gb109 hg w44 hbox hb; have n0_ := Aside0.mk (below_step (by repeat (first | (with_reducible first | exact HB.out | apply below_alloc | apply pw_below_drewN | apply below_drew1) | exact HB.out)) hb); have n1_ := Aside0.mk (hbox); have n2_ := Aside0.mk ((by rw [hg]; exact (below_size (by repeat (first | (with_reducible first | exact HB.out | apply below_alloc | apply pw_below_drewN | apply below_drew1) | exact HB.out))) : w.heap.size ≤ gb109)); have n3_ := Aside0.mk ((by rw [hg]; exact (below_size (by repeat (first | (with_reducible first | exact HB.out | apply below_alloc | apply pw_below_drewN | apply below_drew1) | exact HB.out))) : w.heap.size ≤ gb109)); clear HB; have HB := n0_; have BK109 := n1_; have GW109 := n2_; have GE109 := n3_; clear n0_ n1_ n2_ n3_; clear hb hbox hg; have hcz45_0 : w44.cell? ⟨gb109, 0, none⟩ = some (.string a1_0) := (blk_cell BK109.out 0).trans rfl; have hcz45_1 : w44.cell? ⟨gb109, 1, none⟩ = some (.string a1_1) := (blk_cell BK109.out 1).trans rfl; have hcz45_2 : w44.cell? ⟨gb109, 2, none⟩ = some (.slice A1_2 l1_2.length c1_2) := (blk_cell BK109.out 2).trans rfl; have hcz45_3 : w44.cell? ⟨gb109, 3, none⟩ = some (.slice A1_3 l1_3.length c1_3) := (blk_cell BK109.out 3).trans rfl; have hfz45_0 := blk_frozen BK109.out 0; have hfz45_1 := blk_frozen BK109.out 1; have hfz45_2 := blk_frozen BK109.out 2; have hfz45_3 := blk_frozen BK109.out 3) | ((with_reducible refine gate_callee (f := 22) rfl ?_); refine goesL_ (some 13) rfl rfl Try.func22 (by kernel_rfl) rfl #[.agg #[.string a1_0, .string a1_1, .slice A1_2 l1_2.length c1_2, .slice A1_3 l1_3.length c1_3]] rfl (by (try simp only [List.map_toArray, List.map_cons, List.map_nil]); first | done | rfl | (simp only [List.length_drop, List.length_take]; rfl)) ?_; (with_reducible refine (event_May.calls a1_0 a1_1 _ _ l1_2 _ _ l1_3 t110 _ ?side1 ?side2 ?side3 ?side4 A3.out).mono ?_); (case side1 => repeat (first | exact (Kd.C_below HR1_2.out HB.out) | (with_reducible refine Kd.C_alloc ?_ _) | (with_reducible refine Kd.C_drewN ?_ _) | (with_reducible refine Kd.C_drew ?_))); (case side2 => exact HC1_2.out); (case side3 => repeat (first | exact (Kd.C_below HR1_3.out HB.out) | (with_reducible refine Kd.C_alloc ?_ _) | (with_reducible refine Kd.C_drewN ?_ _) | (with_reducible refine Kd.C_drew ?_))); (case side4 => exact HC1_3.out); rintro e w46 ⟨rfl, hb⟩; refine ⟨_, rfl, ?_⟩; have n0_ := Aside0.mk (blk_below (g := gb109) (o := .cells #[.string a1_0, .string a1_1, .slice A1_2 l1_2.length c1_2, .slice A1_3 l1_3.length c1_3] 40 (0, 0)) (by (with_reducible repeat (first | refine blk_drewN ?_ _ | refine blk_drew ?_ | refine blk_alloc ?_ _)); exact BK109.out) hb); have n1_ := Aside0.mk (below_step (by repeat (first | (with_reducible first | exact HB.out | apply below_alloc | apply pw_below_drewN | apply below_drew1 | refine below_set ?_ GE109.out) | exact HB.out)) hb); clear BK109; clear HB; have BK109 := n0_; have HB := n1_; clear n0_ n1_; (try clear hb); (try clear hb2); (try clear hk); (try clear hi)))
    go_ret2
    exact ⟨_, by first | rfl | (simp [errW_none, errW_some] <;> rfl) | (simp [*, errW_none, errW_some] <;> rfl), by first | exact Kd.R_nil _ _ _ _ _ | exact Kd.N_nil _ _ _ _ _ | exact Kd.V_nil _ _ _ _ _ | exact Kd.Q_nil _ _ _ _ _ | exact Kd.S_nil _ _ _ _ _, by repeat (first | (with_reducible first | exact HB.out | apply below_alloc | apply pw_below_drewN | apply below_drew1 | refine below_set ?_ GE109.out) | exact HB.out)⟩

end Go.Proofs.Ytafeakcajhhkoaa.Prt

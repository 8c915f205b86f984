/- Functions of the program, told as plain functions, with their walks: written by a program of this claim's out of the translation. What is wrong with an event, and whether two events are the same, as the reference says: in closed form. The contracts of numbers and texts as bytes, in the form that the printed functions ask. Events as bytes, and rows of events that are the same: in closed form. Events: the document's example; what few answers; events as bytes are told apart. What is taken is what was laid down: events, one and all. evcode.All: its walk. What stands in memory while the reference takes an event. What the reference's Take finds is what Take finds: plain laws. -/
import Derived.Test.YtmnidohgnnpeiaaYEvcodeTakes1
import Derived.Test.YtmnidohgnnpeiaaYEvcodeTakes2
import Derived.Test.YtmnidohgnnpeiaaYEvcodeTakes3
namespace Go.Proofs.Ytmnidohgnnpeiaa.Prt
open Go.RowKit Go.Proofs.YtmnidohgnnpeiaaW.PrintWords Go.Proofs.YtmnidohgnnpeiaaW.PrintLast Go.Proofs.YtmnidohgnnpeiaaW.PrintMore
attribute [local go_sem] max2_int min2_int max_two min_two max_three min_three max_four min_four   -- for this text's walks alone
set_option linter.unusedVariables false
set_option linter.unusedSimpArgs false

mutual
def registrarref04_May.j0 : Nat → Bool → ByteArray → ByteArray → List ByteArray → List (S35) → Option (Int)
  | 0, _, _, _, _, _ => none
  | k + 1, x23, x175000, x175001, x175002, x175003 => if x23 = true then (some 5) else (if (x175002.length : Int) > 6 then (registrarref04_May.j1 k true x175000 x175001 x175002 x175003) else (registrarref04_May.j1 k (decide ((x175003.length : Int) > 4)) x175000 x175001 x175002 x175003))
def registrarref04_May.j1 : Nat → Bool → ByteArray → ByteArray → List ByteArray → List (S35) → Option (Int)
  | 0, _, _, _, _, _ => none
  | k + 1, x33, x175000, x175001, x175002, x175003 => if x33 = true then (some 3) else (registrarref04_May.l0 k (([] : List ByteArray)) true 0 x175000 x175001 x175002 x175003)
def registrarref04_May.l0 : Nat → List ByteArray → Bool → Int → ByteArray → ByteArray → List ByteArray → List (S35) → Option (Int)
  | 0, _, _, _, _, _, _, _ => none
  | k + 1, x5, x6, x7, x175000, x175001, x175002, x175003 => if x7 < (x175003.length : Int) then (if 0 ≤ x7 then ((registrarref03_MayG.f ((rd_T35 x175003 x7).f0)).bind fun t181 => (if t181 = true then (if x5.length < 8796093022208 then ((some (x5 ++ [(rd_T35 x175003 x7).f0] : List ByteArray)).bind fun y183 => (if x6 = true then (if ((rd_T35 x175003 x7).f1) ≥ (-1099511627776) then (registrarref04_May.l0 k y183 (decide (((rd_T35 x175003 x7).f1) ≤ 1099511627776)) (wrap64 (x7 + 1)) x175000 x175001 x175002 x175003) else (registrarref04_May.l0 k y183 false (wrap64 (x7 + 1)) x175000 x175001 x175002 x175003)) else (registrarref04_May.l0 k y183 false (wrap64 (x7 + 1)) x175000 x175001 x175002 x175003))) else (none)) else (some 5))) else (none)) else ((registrarref04_tagsG.f x175002).bind fun t188 => (if t188 = true then ((registrarref04_RiseG.f x175002).bind fun t189 => ((registrarref04_RiseG.f x5).bind fun t190 => (if x6 = true then (if t189 = true then (if t190 = true then (some 0) else (some 1)) else (some 1)) else (some 1)))) else (some 5)))
end
def registrarref04_May.f (k : Nat) (a0_0 : ByteArray) (a0_1 : ByteArray) (l0_2 : List ByteArray) (l0_3 : List (S35)) : Option (Int) := (registrarref03_MayG.f a0_0).bind fun t175 => ((registrarref03_MayG.f a0_1).bind fun t176 => (if t175 = true then (registrarref04_May.j0 k (!t176) a0_0 a0_1 l0_2 l0_3) else (registrarref04_May.j0 k true a0_0 a0_1 l0_2 l0_3)))
set_option maxHeartbeats 8000000 in
set_option maxRecDepth 100000 in
theorem registrarref04_May.calls (k : Nat) (a0_0 : ByteArray) (a0_1 : ByteArray) (A0_2 : Option Addr) (c0_2 : Nat) (l0_2 : List ByteArray) (A0_3 : Option Addr) (c0_3 : Nat) (l0_3 : List (S35)) (r : Int) (w : World) (hr0_2 : Kd.C Kd.string w A0_2 l0_2.length l0_2) (hc0_2 : l0_2.length ≤ c0_2) (hr0_3 : Kd.C k35 w A0_3 l0_3.length l0_3) (hc0_3 : l0_3.length ≤ c0_3) (h : registrarref04_May.f k a0_0 a0_1 l0_2 l0_3 = some r) :
    Calls Try.prog 25 #[.agg #[.string a0_0, .string a0_1, .slice A0_2 l0_2.length c0_2, .slice A0_3 l0_3.length c0_3]] w fun e w' => e = .returned (.int .i64 r) ∧ Below w.heap.size w w' := by
  have hu26 := Try.underlying26
  have HR0_2 := Aside0.mk hr0_2
  have HC0_2 := Aside0.mk hc0_2
  clear hr0_2 hc0_2
  have HR0_3 := Aside0.mk hr0_3
  have HC0_3 := Aside0.mk hc0_3
  clear hr0_3 hc0_3
  have HB := Aside0.mk (Below.refl w.heap.size w)
  have H : ((registrarref03_MayG.f a0_0).bind fun t175 => ((registrarref03_MayG.f a0_1).bind fun t176 => (if t175 = true then (registrarref04_May.j0 k (!t176) a0_0 a0_1 l0_2 l0_3) else (registrarref04_May.j0 k true a0_0 a0_1 l0_2 l0_3)))) = some r := h
  clear h
  replace H := Option.bind_eq_some_iff.mp H
  obtain ⟨t175, A20, H⟩ := H
  replace H : ((registrarref03_MayG.f a0_1).bind fun t176 => (if t175 = true then (registrarref04_May.j0 k (!t176) a0_0 a0_1 l0_2 l0_3) else (registrarref04_May.j0 k true a0_0 a0_1 l0_2 l0_3))) = some r := H
  have A2 := Aside0.mk A20
  clear A20
  replace H := Option.bind_eq_some_iff.mp H
  obtain ⟨t176, A30, H⟩ := H
  replace H : (if t175 = true then (registrarref04_May.j0 k (!t176) a0_0 a0_1 l0_2 l0_3) else (registrarref04_May.j0 k true a0_0 a0_1 l0_2 l0_3)) = some r := H
  have A3 := Aside0.mk A30
  clear A30
  have HC4 := Aside0.mk H
  clear H
  go_enter Try.func25, Try.ntmps25
  go_upto_region 3 with (first | ((with_reducible refine gate_dst (N := 1) rfl ?_); (try (refine gate_guard (by rfl) ?_; dsimp only)); refine box_event ?hg (N := 1) ?hd (cs := #[.string a0_0, .string a0_1, .slice A0_2 l0_2.length c0_2, .slice A0_3 l0_3.length c0_3]) (t := 26) ?hr ?_; (case hd => rfl); (case hg => rfl); (case hr => first | (go_simp; done) | (go_simp; rfl)); intro gb174 hg w5 hbox hb; have n0_ := Aside0.mk (below_step (by repeat (first | (with_reducible first | exact HB.out | apply below_alloc | apply pw_below_drewN | apply below_drew1) | exact HB.out)) hb); have n1_ := Aside0.mk (hbox); have n2_ := Aside0.mk ((by rw [hg]; exact (below_size (by repeat (first | (with_reducible first | exact HB.out | apply below_alloc | apply pw_below_drewN | apply below_drew1) | exact HB.out))) : w.heap.size ≤ gb174)); have n3_ := Aside0.mk ((by rw [hg]; exact (below_size (by repeat (first | (with_reducible first | exact HB.out | apply below_alloc | apply pw_below_drewN | apply below_drew1) | exact HB.out))) : w.heap.size ≤ gb174)); clear HB; have HB := n0_; have BK174 := n1_; have GW174 := n2_; have GE174 := n3_; clear n0_ n1_ n2_ n3_; clear hb hbox hg; have hcz6_0 : w5.cell? ⟨gb174, 0, none⟩ = some (.string a0_0) := (blk_cell BK174.out 0).trans rfl; have hcz6_1 : w5.cell? ⟨gb174, 1, none⟩ = some (.string a0_1) := (blk_cell BK174.out 1).trans rfl; have hcz6_2 : w5.cell? ⟨gb174, 2, none⟩ = some (.slice A0_2 l0_2.length c0_2) := (blk_cell BK174.out 2).trans rfl; have hcz6_3 : w5.cell? ⟨gb174, 3, none⟩ = some (.slice A0_3 l0_3.length c0_3) := (blk_cell BK174.out 3).trans rfl; have hfz6_0 := blk_frozen BK174.out 0; have hfz6_1 := blk_frozen BK174.out 1; have hfz6_2 := blk_frozen BK174.out 2; have hfz6_3 := blk_frozen BK174.out 3) | ((with_reducible refine gate_callee (f := 44) rfl ?_); refine goesL_ (some 14) rfl rfl Try.func44 (by kernel_rfl) rfl #[.string a0_0] rfl (by (try simp only [List.map_toArray, List.map_cons, List.map_nil]); first | done | rfl | (simp only [List.length_drop, List.length_take]; rfl)) ?_; (with_reducible refine (registrarref03_MayG.calls a0_0 t175 _ A2.out).mono ?_); rintro e w7 ⟨rfl, hb⟩; refine ⟨_, rfl, ?_⟩; have n0_ := Aside0.mk (blk_below (g := gb174) (o := .cells #[.string a0_0, .string a0_1, .slice A0_2 l0_2.length c0_2, .slice A0_3 l0_3.length c0_3] 26 (0, 0)) (by (with_reducible repeat (first | refine blk_drewN ?_ _ | refine blk_drew ?_ | refine blk_alloc ?_ _)); exact BK174.out) hb); have n1_ := Aside0.mk (below_step (by repeat (first | (with_reducible first | exact HB.out | apply below_alloc | apply pw_below_drewN | apply below_drew1 | refine below_set ?_ GE174.out) | exact HB.out)) hb); clear BK174; clear HB; have BK174 := n0_; have HB := n1_; clear n0_ n1_; (try clear hb); (try clear hb2); (try clear hk); (try clear hi); have hcz8_0 : w7.cell? ⟨gb174, 0, none⟩ = some (.string a0_0) := (blk_cell BK174.out 0).trans rfl; have hcz8_1 : w7.cell? ⟨gb174, 1, none⟩ = some (.string a0_1) := (blk_cell BK174.out 1).trans rfl; have hcz8_2 : w7.cell? ⟨gb174, 2, none⟩ = some (.slice A0_2 l0_2.length c0_2) := (blk_cell BK174.out 2).trans rfl; have hcz8_3 : w7.cell? ⟨gb174, 3, none⟩ = some (.slice A0_3 l0_3.length c0_3) := (blk_cell BK174.out 3).trans rfl; have hfz8_0 := blk_frozen BK174.out 0; have hfz8_1 := blk_frozen BK174.out 1; have hfz8_2 := blk_frozen BK174.out 2; have hfz8_3 := blk_frozen BK174.out 3) | ((with_reducible refine gate_callee (f := 44) rfl ?_); refine goesL_ (some 17) rfl rfl Try.func44 (by kernel_rfl) rfl #[.string a0_1] rfl (by (try simp only [List.map_toArray, List.map_cons, List.map_nil]); first | done | rfl | (simp only [List.length_drop, List.length_take]; rfl)) ?_; (with_reducible refine (registrarref03_MayG.calls a0_1 t176 _ A3.out).mono ?_); rintro e w9 ⟨rfl, hb⟩; refine ⟨_, rfl, ?_⟩; have n0_ := Aside0.mk (blk_below (g := gb174) (o := .cells #[.string a0_0, .string a0_1, .slice A0_2 l0_2.length c0_2, .slice A0_3 l0_3.length c0_3] 26 (0, 0)) (by (with_reducible repeat (first | refine blk_drewN ?_ _ | refine blk_drew ?_ | refine blk_alloc ?_ _)); exact BK174.out) hb); have n1_ := Aside0.mk (below_step (by repeat (first | (with_reducible first | exact HB.out | apply below_alloc | apply pw_below_drewN | apply below_drew1 | refine below_set ?_ GE174.out) | exact HB.out)) hb); clear BK174; clear HB; have BK174 := n0_; have HB := n1_; clear n0_ n1_; (try clear hb); (try clear hb2); (try clear hk); (try clear hi)))
  (try simp only [Act.put, List.setIfInBounds_toArray, List.set_cons_zero, List.set_cons_succ])
  go_cut [23] (fun v23 wc => ∃ (kq : Nat) (x23_3 : Bool), v23 = .bool x23_3 ∧ Aside0 (registrarref04_May.j0 kq x23_3 a0_0 a0_1 l0_2 l0_3 = some r) ∧ Aside0 (kq ≤ k) ∧ Aside0 (wc.heap[gb174]? = some (.cells #[.string a0_0, .string a0_1, (.slice A0_2 l0_2.length c0_2), (.slice A0_3 l0_3.length c0_3)] 26 (0, 0))) ∧ Aside0 (Below w.heap.size w wc))
  case first =>
    have H := HC4.out
    clear HC4
    by_cases c10 : t175 = true
    · subst c10
      have H1 : (registrarref04_May.j0 k (!t176) a0_0 a0_1 l0_2 l0_3) = some r := by rw [if_pos rfl] at H; exact H
      clear H
      have H := H1
      clear H1
      have H' := Aside0.mk H
      clear H
      go_wp2
      go_meet
      case rel => exact ⟨_, (!t176), (by first | rfl | (simp; done) | (simp [*]; done)), H', ⟨by first | omega | exact Nat.le_refl _⟩, ⟨by (with_reducible repeat (first | refine blk_drewN ?_ _ | refine blk_drew ?_ | refine blk_alloc ?_ _)); exact BK174.out⟩, ⟨by repeat (first | (with_reducible first | exact HB.out | apply below_alloc | apply pw_below_drewN | apply below_drew1 | refine below_set ?_ GE174.out) | exact HB.out)⟩⟩
    · replace c10 := Bool.eq_false_iff.mpr c10
      subst c10
      have H1 : (registrarref04_May.j0 k true a0_0 a0_1 l0_2 l0_3) = some r := by rw [if_neg (show ¬ (false = true) by decide)] at H; exact H
      clear H
      have H := H1
      clear H1
      have H' := Aside0.mk H
      clear H
      go_wp2
      go_meet
      case rel => exact ⟨_, (true), (by first | rfl | (simp; done) | (simp [*]; done)), H', ⟨by first | omega | exact Nat.le_refl _⟩, ⟨by (with_reducible repeat (first | refine blk_drewN ?_ _ | refine blk_drew ?_ | refine blk_alloc ?_ _)); exact BK174.out⟩, ⟨by repeat (first | (with_reducible first | exact HB.out | apply below_alloc | apply pw_below_drewN | apply below_drew1 | refine below_set ?_ GE174.out) | exact HB.out)⟩⟩
  case rest =>
    clear HC4
    try clear c1
    try clear c2
    try clear p2
    try clear c4
    try clear c10
    try clear hcz6_0
    try clear hcz6_1
    try clear hcz6_2
    try clear hcz6_3
    try clear hcz8_0
    try clear hcz8_1
    try clear hcz8_2
    try clear hcz8_3
    try clear hfz6_0
    try clear hfz6_1
    try clear hfz6_2
    try clear hfz6_3
    try clear hfz8_0
    try clear hfz8_1
    try clear hfz8_2
    try clear hfz8_3
    obtain ⟨kq, x23_3, rfl, HA, HJ3, BK174, HB⟩ := hcut
    cases kq with
    | zero => exact absurd HA.out (by simp [registrarref04_May.j0])
    | succ kj3 =>
      have H := HA.out
      clear HA
      simp only [registrarref04_May.j0] at H
      by_cases c11 : x23_3 = true
      · subst c11
        have H1 : (some 5) = some r := by rw [if_pos rfl] at H; exact H
        clear H
        have H := H1
        clear H1
        obtain rfl := Option.some.inj H
        go_wp2
        go_ret
        exact ⟨by first | rfl | (simp [errW_none, errW_some] <;> rfl) | (simp [*, errW_none, errW_some] <;> rfl), by repeat (first | (with_reducible first | exact HB.out | apply below_alloc | apply pw_below_drewN | apply below_drew1 | refine below_set ?_ GE174.out) | exact HB.out)⟩
      · replace c11 := Bool.eq_false_iff.mpr c11
        subst c11
        have H1 : (if (l0_2.length : Int) > 6 then (registrarref04_May.j1 kj3 true a0_0 a0_1 l0_2 l0_3) else (registrarref04_May.j1 kj3 (decide ((l0_3.length : Int) > 4)) a0_0 a0_1 l0_2 l0_3)) = some r := by rw [if_neg (show ¬ (false = true) by decide)] at H; exact H
        clear H
        have H := H1
        clear H1
        have HC12 := Aside0.mk H
        clear H
        go_upto_region 5 with (fail)
        go_cut [33] (fun v33 wc => ∃ (kq : Nat) (x33_11 : Bool), v33 = .bool x33_11 ∧ Aside0 (registrarref04_May.j1 kq x33_11 a0_0 a0_1 l0_2 l0_3 = some r) ∧ Aside0 (kq ≤ kj3) ∧ Aside0 (wc.heap[gb174]? = some (.cells #[.string a0_0, .string a0_1, (.slice A0_2 l0_2.length c0_2), (.slice A0_3 l0_3.length c0_3)] 26 (0, 0))) ∧ Aside0 (Below w.heap.size w wc))
        case first =>
          have H := HC12.out
          clear HC12
          by_cases c13 : (l0_2.length : Int) > 6
          · rw [if_pos c13] at H
            have c13b0 : decide (6 < (l0_2.length : Int)) = true := decide_eq_true c13
            have c13b1 : decide (6 < l0_2.length) = true := decide_eq_true (by omega)
            clear c13
            (first | rw [c13b0] | (simp only [i64_w, i32_w]; rw [c13b0]) | skip)
            have H' := Aside0.mk H
            clear H
            have hcz14_0 : wc.cell? ⟨gb174, 0, none⟩ = some (.string a0_0) := (blk_cell BK174.out 0).trans rfl
            have hcz14_1 : wc.cell? ⟨gb174, 1, none⟩ = some (.string a0_1) := (blk_cell BK174.out 1).trans rfl
            have hcz14_2 : wc.cell? ⟨gb174, 2, none⟩ = some (.slice A0_2 l0_2.length c0_2) := (blk_cell BK174.out 2).trans rfl
            have hcz14_3 : wc.cell? ⟨gb174, 3, none⟩ = some (.slice A0_3 l0_3.length c0_3) := (blk_cell BK174.out 3).trans rfl
            have hfz14_0 := blk_frozen BK174.out 0
            have hfz14_1 := blk_frozen BK174.out 1
            have hfz14_2 := blk_frozen BK174.out 2
            have hfz14_3 := blk_frozen BK174.out 3
            go_wp2
            go_meet
            case rel => exact ⟨_, (true), (by first | rfl | (simp; done) | (simp [*]; done)), H', ⟨by have := HJ3.out; first | omega | exact Nat.le_refl _⟩, ⟨by (with_reducible repeat (first | refine blk_drewN ?_ _ | refine blk_drew ?_ | refine blk_alloc ?_ _)); exact BK174.out⟩, ⟨by repeat (first | (with_reducible first | exact HB.out | apply below_alloc | apply pw_below_drewN | apply below_drew1 | refine below_set ?_ GE174.out) | exact HB.out)⟩⟩
          · rw [if_neg c13] at H
            have c13b0 : decide (6 < (l0_2.length : Int)) = false := decide_eq_false c13
            have c13b1 : decide (6 < l0_2.length) = false := decide_eq_false (by omega)
            clear c13
            (first | rw [c13b0] | (simp only [i64_w, i32_w]; rw [c13b0]) | skip)
            have H' := Aside0.mk H
            clear H
            have hcz15_0 : wc.cell? ⟨gb174, 0, none⟩ = some (.string a0_0) := (blk_cell BK174.out 0).trans rfl
            have hcz15_1 : wc.cell? ⟨gb174, 1, none⟩ = some (.string a0_1) := (blk_cell BK174.out 1).trans rfl
            have hcz15_2 : wc.cell? ⟨gb174, 2, none⟩ = some (.slice A0_2 l0_2.length c0_2) := (blk_cell BK174.out 2).trans rfl
            have hcz15_3 : wc.cell? ⟨gb174, 3, none⟩ = some (.slice A0_3 l0_3.length c0_3) := (blk_cell BK174.out 3).trans rfl
            have hfz15_0 := blk_frozen BK174.out 0
            have hfz15_1 := blk_frozen BK174.out 1
            have hfz15_2 := blk_frozen BK174.out 2
            have hfz15_3 := blk_frozen BK174.out 3
            go_wp2
            go_meet
            case rel => exact ⟨_, (decide ((l0_3.length : Int) > 4)), (by first | rfl | (simp; done) | (simp [*]; done)), H', ⟨by have := HJ3.out; first | omega | exact Nat.le_refl _⟩, ⟨by (with_reducible repeat (first | refine blk_drewN ?_ _ | refine blk_drew ?_ | refine blk_alloc ?_ _)); exact BK174.out⟩, ⟨by repeat (first | (with_reducible first | exact HB.out | apply below_alloc | apply pw_below_drewN | apply below_drew1 | refine below_set ?_ GE174.out) | exact HB.out)⟩⟩
        case rest =>
          clear HC12
          try clear c1
          try clear c2
          try clear p2
          try clear c4
          try clear c10
          try clear c11
          try clear c13
          try clear c13b0
          try clear c13b1
          try clear hcz14_0
          try clear hcz14_1
          try clear hcz14_2
          try clear hcz14_3
          try clear hcz15_0
          try clear hcz15_1
          try clear hcz15_2
          try clear hcz15_3
          try clear hcz6_0
          try clear hcz6_1
          try clear hcz6_2
          try clear hcz6_3
          try clear hcz8_0
          try clear hcz8_1
          try clear hcz8_2
          try clear hcz8_3
          try clear hfz14_0
          try clear hfz14_1
          try clear hfz14_2
          try clear hfz14_3
          try clear hfz15_0
          try clear hfz15_1
          try clear hfz15_2
          try clear hfz15_3
          try clear hfz6_0
          try clear hfz6_1
          try clear hfz6_2
          try clear hfz6_3
          try clear hfz8_0
          try clear hfz8_1
          try clear hfz8_2
          try clear hfz8_3
          try clear p2
          obtain ⟨kq, x33_11, rfl, HA, HJ11, BK174, HB⟩ := hcut
          cases kq with
          | zero => exact absurd HA.out (by simp [registrarref04_May.j1])
          | succ kj11 =>
            have H := HA.out
            clear HA
            simp only [registrarref04_May.j1] at H
            by_cases c16 : x33_11 = true
            · subst c16
              have H1 : (some 3) = some r := by rw [if_pos rfl] at H; exact H
              clear H
              have H := H1
              clear H1
              obtain rfl := Option.some.inj H
              go_wp2
              go_ret
              exact ⟨by first | rfl | (simp [errW_none, errW_some] <;> rfl) | (simp [*, errW_none, errW_some] <;> rfl), by repeat (first | (with_reducible first | exact HB.out | apply below_alloc | apply pw_below_drewN | apply below_drew1 | refine below_set ?_ GE174.out) | exact HB.out)⟩
            · replace c16 := Bool.eq_false_iff.mpr c16
              subst c16
              have H1 : (registrarref04_May.l0 kj11 (([] : List ByteArray)) true 0 a0_0 a0_1 l0_2 l0_3) = some r := by rw [if_neg (show ¬ (false = true) by decide)] at H; exact H
              clear H
              have H := H1
              clear H1
              obtain ⟨y177, hy177⟩ : ∃ y_ : List ByteArray, y_ = (([] : List ByteArray)) := ⟨_, rfl⟩
              replace H : (registrarref04_May.l0 kj11 y177 true 0 a0_0 a0_1 l0_2 l0_3) = some r := by first | (rw [hy177]; with_reducible exact H) | (have H2_ := (Option.bind_some _ _).symm.trans H; rw [hy177]; with_reducible exact H2_) | (have H2_ := (Option.bind_some _ _).symm.trans H; with_reducible exact H2_) | with_reducible exact H | (rw [hy177]; exact H) | exact H
              have Ny177 := Aside0.mk hy177
              clear hy177
              have H' := Aside0.mk H
              clear H
              go_wp2_with (first | ((with_reducible refine gate_dst (N := 34) rfl ?_); (try (refine gate_guard (by rfl) ?_; dsimp only)); refine Kd.R_lit Kd.string _ 9 ?hg (N := 34) ?hd (xs := ([] : List ByteArray)) (inner := []) (ok := fun _ => True) (okp := fun _ => True) ?hr ?hp (fun _ hk => hk) trivial (Below.refl _ _) (Nat.le_refl _) (by simp) ?_; (case hd => rfl); (case hg => rfl); (case hr => first | (go_simp; done) | (go_simp; rfl)); (case hp => exact (Reps.none _ _)); intro v178 w17 ho18 hb hg_ hnew_; clear hg_ hnew_; (first | rw [← Ny177.out] at ho18 | (simp only [Int.reduceToNat] at ho18; rw [← Ny177.out] at ho18)); have n0_ := Aside0.mk (Kd.R_lower ho18 (below_size (by repeat (first | (with_reducible first | exact HB.out | apply below_alloc | apply pw_below_drewN | apply below_drew1 | refine below_set ?_ GE174.out) | exact HB.out)))); have n1_ := Aside0.mk (blk_below (g := gb174) (o := .cells #[.string a0_0, .string a0_1, .slice A0_2 l0_2.length c0_2, .slice A0_3 l0_3.length c0_3] 26 (0, 0)) (by (with_reducible repeat (first | refine blk_drewN ?_ _ | refine blk_drew ?_ | refine blk_alloc ?_ _)); exact BK174.out) hb); have n2_ := Aside0.mk (below_step (by repeat (first | (with_reducible first | exact HB.out | apply below_alloc | apply pw_below_drewN | apply below_drew1 | refine below_set ?_ GE174.out) | exact HB.out)) hb); clear BK174; clear HB; have HO179 := n0_; have BK174 := n1_; have HB := n2_; clear n0_ n1_ n2_; clear hb ho18))
              go_loopg [5, 6, 7] kj11 (fun kq v5 v6 v7 w' => ∃ (x5_3 : List ByteArray) (x6_3 : Bool) (x7_3 : Int), v6 = .bool x6_3 ∧ v7 = .int .i64 x7_3 ∧ Aside0 (registrarref04_May.l0 kq x5_3 x6_3 x7_3 a0_0 a0_1 l0_2 l0_3 = some r) ∧ Aside0 (kq ≤ kj11) ∧ Aside0 (Kd.R Kd.string 9 w' w.heap.size (fun _ => True) v5 x5_3) ∧ Aside0 (w'.heap[gb174]? = some (.cells #[.string a0_0, .string a0_1, (.slice A0_2 l0_2.length c0_2), (.slice A0_3 l0_3.length c0_3)] 26 (0, 0))) ∧ Aside0 (Below w.heap.size w w'))
              case atStart => exact ⟨(y177), (true), (0), (by first | rfl | (simp; done) | (simp [*]; done)), (by first | rfl | (simp; done) | (simp [*]; done)), H', ⟨Nat.le_refl _⟩, ⟨by (with_reducible repeat (first | apply Kd.R_alloc | apply Kd.R_drewN | apply Kd.R_drew)); exact HO179.out⟩, ⟨by (with_reducible repeat (first | refine blk_drewN ?_ _ | refine blk_drew ?_ | refine blk_alloc ?_ _)); exact BK174.out⟩, ⟨by repeat (first | (with_reducible first | exact HB.out | apply below_alloc | apply pw_below_drewN | apply below_drew1 | refine below_set ?_ GE174.out) | exact HB.out)⟩⟩
              case round =>
                clear H'
                try clear c1
                try clear c2
                try clear p2
                try clear c4
                try clear c10
                try clear c11
                try clear c13
                try clear c13b0
                try clear c13b1
                try clear c16
                try clear hcz14_0
                try clear hcz14_1
                try clear hcz14_2
                try clear hcz14_3
                try clear hcz15_0
                try clear hcz15_1
                try clear hcz15_2
                try clear hcz15_3
                try clear hcz6_0
                try clear hcz6_1
                try clear hcz6_2
                try clear hcz6_3
                try clear hcz8_0
                try clear hcz8_1
                try clear hcz8_2
                try clear hcz8_3
                try clear hfz14_0
                try clear hfz14_1
                try clear hfz14_2
                try clear hfz14_3
                try clear hfz15_0
                try clear hfz15_1
                try clear hfz15_2
                try clear hfz15_3
                try clear hfz6_0
                try clear hfz6_1
                try clear hfz6_2
                try clear hfz6_3
                try clear hfz8_0
                try clear hfz8_1
                try clear hfz8_2
                try clear hfz8_3
                try clear p2
                obtain ⟨x5_3, x6_3, x7_3, rfl, rfl, HA, HK3, HO_5, BK174, HB⟩ := hrel
                cases gk with
                | zero => exact absurd HA.out (by simp [registrarref04_May.l0])
                | succ k3 =>
                  have H := HA.out
                  clear HA
                  simp only [registrarref04_May.l0] at H
                  by_cases c19 : x7_3 < (l0_3.length : Int)
                  · rw [if_pos c19] at H
                    have c19b0 : decide (x7_3 < (l0_3.length : Int)) = true := decide_eq_true c19
                    clear c19
                    by_cases c20 : 0 ≤ x7_3
                    · rw [if_pos c20] at H
                      have c20b0 : decide (0 ≤ x7_3) = true := decide_eq_true c20
                      clear c20
                      replace H := Option.bind_eq_some_iff.mp H
                      obtain ⟨t181, A210, H⟩ := H
                      replace H : (if t181 = true then (if x5_3.length < 8796093022208 then ((some (x5_3 ++ [(rd_T35 l0_3 x7_3).f0] : List ByteArray)).bind fun y183 => (if x6_3 = true then (if ((rd_T35 l0_3 x7_3).f1) ≥ (-1099511627776) then (registrarref04_May.l0 k3 y183 (decide (((rd_T35 l0_3 x7_3).f1) ≤ 1099511627776)) (wrap64 (x7_3 + 1)) a0_0 a0_1 l0_2 l0_3) else (registrarref04_May.l0 k3 y183 false (wrap64 (x7_3 + 1)) a0_0 a0_1 l0_2 l0_3)) else (registrarref04_May.l0 k3 y183 false (wrap64 (x7_3 + 1)) a0_0 a0_1 l0_2 l0_3))) else (none)) else (some 5)) = some r := H
                      have A21 := Aside0.mk A210
                      clear A210
                      by_cases c22 : t181 = true
                      · subst c22
                        have H1 : (if x5_3.length < 8796093022208 then ((some (x5_3 ++ [(rd_T35 l0_3 x7_3).f0] : List ByteArray)).bind fun y183 => (if x6_3 = true then (if ((rd_T35 l0_3 x7_3).f1) ≥ (-1099511627776) then (registrarref04_May.l0 k3 y183 (decide (((rd_T35 l0_3 x7_3).f1) ≤ 1099511627776)) (wrap64 (x7_3 + 1)) a0_0 a0_1 l0_2 l0_3) else (registrarref04_May.l0 k3 y183 false (wrap64 (x7_3 + 1)) a0_0 a0_1 l0_2 l0_3)) else (registrarref04_May.l0 k3 y183 false (wrap64 (x7_3 + 1)) a0_0 a0_1 l0_2 l0_3))) else (none)) = some r := by rw [if_pos rfl] at H; exact H
                        clear H
                        have H := H1
                        clear H1
                        by_cases c23 : x5_3.length < 8796093022208
                        · rw [if_pos c23] at H
                          have LMc23 := Aside0.mk c23
                          clear c23
                          obtain ⟨y183, hy183⟩ : ∃ y_ : List ByteArray, y_ = (x5_3 ++ [(rd_T35 l0_3 x7_3).f0]) := ⟨_, rfl⟩
                          replace H : (if x6_3 = true then (if ((rd_T35 l0_3 x7_3).f1) ≥ (-1099511627776) then (registrarref04_May.l0 k3 y183 (decide (((rd_T35 l0_3 x7_3).f1) ≤ 1099511627776)) (wrap64 (x7_3 + 1)) a0_0 a0_1 l0_2 l0_3) else (registrarref04_May.l0 k3 y183 false (wrap64 (x7_3 + 1)) a0_0 a0_1 l0_2 l0_3)) else (registrarref04_May.l0 k3 y183 false (wrap64 (x7_3 + 1)) a0_0 a0_1 l0_2 l0_3)) = some r := by first | (rw [hy183]; with_reducible exact H) | (have H2_ := (Option.bind_some _ _).symm.trans H; rw [hy183]; with_reducible exact H2_) | (have H2_ := (Option.bind_some _ _).symm.trans H; with_reducible exact H2_) | with_reducible exact H | (rw [hy183]; exact H) | exact H
                          have Ny183 := Aside0.mk hy183
                          clear hy183
                          by_cases c24 : x6_3 = true
                          · subst c24
                            have H1 : (if ((rd_T35 l0_3 x7_3).f1) ≥ (-1099511627776) then (registrarref04_May.l0 k3 y183 (decide (((rd_T35 l0_3 x7_3).f1) ≤ 1099511627776)) (wrap64 (x7_3 + 1)) a0_0 a0_1 l0_2 l0_3) else (registrarref04_May.l0 k3 y183 false (wrap64 (x7_3 + 1)) a0_0 a0_1 l0_2 l0_3)) = some r := by rw [if_pos rfl] at H; exact H
                            clear H
                            have H := H1
                            clear H1
                            by_cases c25 : ((rd_T35 l0_3 x7_3).f1) ≥ (-1099511627776)
                            · rw [if_pos c25] at H
                              have c25b0 : decide ((-1099511627776) ≤ ((rd_T35 l0_3 x7_3).f1)) = true := decide_eq_true c25
                              clear c25
                              have H' := Aside0.mk H
                              clear H
                              have hcz26_0 : wr.cell? ⟨gb174, 0, none⟩ = some (.string a0_0) := (blk_cell BK174.out 0).trans rfl
                              have hcz26_1 : wr.cell? ⟨gb174, 1, none⟩ = some (.string a0_1) := (blk_cell BK174.out 1).trans rfl
                              have hcz26_2 : wr.cell? ⟨gb174, 2, none⟩ = some (.slice A0_2 l0_2.length c0_2) := (blk_cell BK174.out 2).trans rfl
                              have hcz26_3 : wr.cell? ⟨gb174, 3, none⟩ = some (.slice A0_3 l0_3.length c0_3) := (blk_cell BK174.out 3).trans rfl
                              have hfz26_0 := blk_frozen BK174.out 0
                              have hfz26_1 := blk_frozen BK174.out 1
                              have hfz26_2 := blk_frozen BK174.out 2
                              have hfz26_3 := blk_frozen BK174.out 3
                              have p180 : 0 ≤ (x7_3 : Int) := of_decide_eq_true (by first | (with_reducible assumption) | assumption)
                              have q180 : x7_3 < (l0_3.length : Int) := of_decide_eq_true (by first | (with_reducible assumption) | assumption)
                              obtain ⟨ad180, e180, hx180_0, hx180_1⟩ := at_T35 HR0_3.out x7_3 p180 q180
                              cases e180
                              replace hx180_0 := (HB.out.cell (World.block_lt_of_cell? w _ hx180_0)).trans hx180_0
                              replace hx180_1 := (HB.out.cell (World.block_lt_of_cell? w _ hx180_1)).trans hx180_1
                              replace p180 := eq_true p180
                              replace q180 := eq_true q180
                              go_wp2_with (first | ((with_reducible refine gate_callee (f := 44) rfl ?_); refine goesL_ (some 48) rfl rfl Try.func44 (by kernel_rfl) rfl #[.string ((rd_T35 l0_3 x7_3).f0)] rfl (by (try simp only [List.map_toArray, List.map_cons, List.map_nil]); first | done | rfl | (simp only [List.length_drop, List.length_take]; rfl)) ?_; (with_reducible refine (registrarref03_MayG.calls ((rd_T35 l0_3 x7_3).f0) true _ A21.out).mono ?_); rintro e w27 ⟨rfl, hb⟩; refine ⟨_, rfl, ?_⟩; have n0_ := Aside0.mk (Kd.R_below (by (with_reducible repeat (first | apply Kd.R_alloc | apply Kd.R_drewN | apply Kd.R_drew)); exact HO_5.out) hb); have n1_ := Aside0.mk (blk_below (g := gb174) (o := .cells #[.string a0_0, .string a0_1, .slice A0_2 l0_2.length c0_2, .slice (some ad180) l0_3.length c0_3] 26 (0, 0)) (by (with_reducible repeat (first | refine blk_drewN ?_ _ | refine blk_drew ?_ | refine blk_alloc ?_ _)); exact BK174.out) hb); have n2_ := Aside0.mk (below_step (by repeat (first | (with_reducible first | exact HB.out | apply below_alloc | apply pw_below_drewN | apply below_drew1 | refine below_set ?_ GE174.out) | exact HB.out)) hb); clear HO_5; clear BK174; clear HB; have HO_5 := n0_; have BK174 := n1_; have HB := n2_; clear n0_ n1_ n2_; (try clear hb); (try clear hb2); (try clear hk); (try clear hi); have hcz28_0 : w27.cell? ⟨gb174, 0, none⟩ = some (.string a0_0) := (blk_cell BK174.out 0).trans rfl; have hcz28_1 : w27.cell? ⟨gb174, 1, none⟩ = some (.string a0_1) := (blk_cell BK174.out 1).trans rfl; have hcz28_2 : w27.cell? ⟨gb174, 2, none⟩ = some (.slice A0_2 l0_2.length c0_2) := (blk_cell BK174.out 2).trans rfl; have hcz28_3 : w27.cell? ⟨gb174, 3, none⟩ = some (.slice (some ad180) l0_3.length c0_3) := (blk_cell BK174.out 3).trans rfl; have hfz28_0 := blk_frozen BK174.out 0; have hfz28_1 := blk_frozen BK174.out 1; have hfz28_2 := blk_frozen BK174.out 2; have hfz28_3 := blk_frozen BK174.out 3; have p182 : 0 ≤ (x7_3 : Int) := of_decide_eq_true (by first | (with_reducible assumption) | assumption); have q182 : x7_3 < (l0_3.length : Int) := of_decide_eq_true (by first | (with_reducible assumption) | assumption); obtain ⟨ad182, e182, hx182_0, hx182_1⟩ := at_T35 HR0_3.out x7_3 p182 q182; obtain rfl : ad180 = ad182 := (by injection e182); replace hx182_0 := (HB.out.cell (World.block_lt_of_cell? w _ hx182_0)).trans hx182_0; replace hx182_1 := (HB.out.cell (World.block_lt_of_cell? w _ hx182_1)).trans hx182_1; replace p182 := eq_true p182; replace q182 := eq_true q182) | ((with_reducible refine gate_builtin (b := .append) (xs := #[.tmp 51, .tmp 58]) rfl ?_); (try (refine gate_guard (by rfl) ?_; dsimp only)); at_builtin; refine Kd.R_append Kd.string (w0 := w) w.heap.size rfl (.tmp 51) (.tmp 58) 23 9 (.string ⟨#[]⟩) 16 rfl Try.underlying23 info9 rfl (by decide) (by omega) u5 x5_3 ((rd_T35 l0_3 x7_3).f0) [.string ((rd_T35 l0_3 x7_3).f0)] (fun _ => True) (fun _ => False) rfl rfl ?aP (fun _ hk => hk.elim) ?aF ?aO ?aB ?aS ?aL ?_; (case aP => exact rfl); (case aB => exact (by repeat (first | (with_reducible first | exact HB.out | apply below_alloc | apply pw_below_drewN | apply below_drew1 | refine below_set ?_ GE174.out) | exact HB.out))); (case aF => exact (fun _ _ => trivial)); (case aO => exact (by (with_reducible repeat (first | apply Kd.R_alloc | apply Kd.R_drewN | apply Kd.R_drew)); exact HO_5.out)); (case aS => exact (below_size (by repeat (first | (with_reducible first | exact HB.out | apply below_alloc | apply pw_below_drewN | apply below_drew1 | refine below_set ?_ GE174.out) | exact HB.out)))); (case aL => have := LMc23.out; omega); intro v184 w29 ho hb hg hat; rw [← Ny183.out] at ho; have n0_ := Aside0.mk (blk_grown (g := gb174) (o := .cells #[.string a0_0, .string a0_1, .slice A0_2 l0_2.length c0_2, .slice (some ad180) l0_3.length c0_3] 26 (0, 0)) (by (with_reducible repeat (first | refine blk_drewN ?_ _ | refine blk_drew ?_ | refine blk_alloc ?_ _)); exact BK174.out) hg (Kd.R_ne HO_5.out BK174.out (by decide))); have n1_ := Aside0.mk (hb); have n2_ := Aside0.mk (ho); clear BK174; clear HB; clear HO_5; have BK174 := n0_; have HB := n1_; have HO185 := n2_; clear n0_ n1_ n2_; clear ho hb hg hat; have hcz30_0 : w29.cell? ⟨gb174, 0, none⟩ = some (.string a0_0) := (blk_cell BK174.out 0).trans rfl; have hcz30_1 : w29.cell? ⟨gb174, 1, none⟩ = some (.string a0_1) := (blk_cell BK174.out 1).trans rfl; have hcz30_2 : w29.cell? ⟨gb174, 2, none⟩ = some (.slice A0_2 l0_2.length c0_2) := (blk_cell BK174.out 2).trans rfl; have hcz30_3 : w29.cell? ⟨gb174, 3, none⟩ = some (.slice (some ad180) l0_3.length c0_3) := (blk_cell BK174.out 3).trans rfl; have hfz30_0 := blk_frozen BK174.out 0; have hfz30_1 := blk_frozen BK174.out 1; have hfz30_2 := blk_frozen BK174.out 2; have hfz30_3 := blk_frozen BK174.out 3; have p186 : 0 ≤ (x7_3 : Int) := of_decide_eq_true (by first | (with_reducible assumption) | assumption); have q186 : x7_3 < (l0_3.length : Int) := of_decide_eq_true (by first | (with_reducible assumption) | assumption); obtain ⟨ad186, e186, hx186_0, hx186_1⟩ := at_T35 HR0_3.out x7_3 p186 q186; obtain rfl : ad180 = ad186 := (by injection e186); replace hx186_0 := (HB.out.cell (World.block_lt_of_cell? w _ hx186_0)).trans hx186_0; replace hx186_1 := (HB.out.cell (World.block_lt_of_cell? w _ hx186_1)).trans hx186_1; replace p186 := eq_true p186; replace q186 := eq_true q186; have p187 : 0 ≤ (x7_3 : Int) := of_decide_eq_true (by first | (with_reducible assumption) | assumption); have q187 : x7_3 < (l0_3.length : Int) := of_decide_eq_true (by first | (with_reducible assumption) | assumption); obtain ⟨ad187, e187, hx187_0, hx187_1⟩ := at_T35 HR0_3.out x7_3 p187 q187; obtain rfl : ad180 = ad187 := (by injection e187); replace hx187_0 := (HB.out.cell (World.block_lt_of_cell? w _ hx187_0)).trans hx187_0; replace hx187_1 := (HB.out.cell (World.block_lt_of_cell? w _ hx187_1)).trans hx187_1; replace p187 := eq_true p187; replace q187 := eq_true q187))
                              go_roundg k3
                              case measure => have := HJ3.out; have := HJ11.out; have := HK3.out; omega
                              case rel => exact ⟨(y183), (decide (((rd_T35 l0_3 x7_3).f1) ≤ 1099511627776)), (wrap64 (x7_3 + 1)), (by first | rfl | (simp; done) | (simp [*]; done)), (by first | rfl | (simp; done) | (simp [*]; done)), H', ⟨by have := HJ3.out; have := HJ11.out; have := HK3.out; omega⟩, ⟨by (with_reducible repeat (first | apply Kd.R_alloc | apply Kd.R_drewN | apply Kd.R_drew)); exact HO185.out⟩, ⟨by (with_reducible repeat (first | refine blk_drewN ?_ _ | refine blk_drew ?_ | refine blk_alloc ?_ _)); exact BK174.out⟩, ⟨by repeat (first | (with_reducible first | exact HB.out | apply below_alloc | apply pw_below_drewN | apply below_drew1 | refine below_set ?_ GE174.out) | exact HB.out)⟩⟩
                            · rw [if_neg c25] at H
                              have c25b0 : decide ((-1099511627776) ≤ ((rd_T35 l0_3 x7_3).f1)) = false := decide_eq_false c25
                              clear c25
                              have H' := Aside0.mk H
                              clear H
                              have hcz31_0 : wr.cell? ⟨gb174, 0, none⟩ = some (.string a0_0) := (blk_cell BK174.out 0).trans rfl
                              have hcz31_1 : wr.cell? ⟨gb174, 1, none⟩ = some (.string a0_1) := (blk_cell BK174.out 1).trans rfl
                              have hcz31_2 : wr.cell? ⟨gb174, 2, none⟩ = some (.slice A0_2 l0_2.length c0_2) := (blk_cell BK174.out 2).trans rfl
                              have hcz31_3 : wr.cell? ⟨gb174, 3, none⟩ = some (.slice A0_3 l0_3.length c0_3) := (blk_cell BK174.out 3).trans rfl
                              have hfz31_0 := blk_frozen BK174.out 0
                              have hfz31_1 := blk_frozen BK174.out 1
                              have hfz31_2 := blk_frozen BK174.out 2
                              have hfz31_3 := blk_frozen BK174.out 3
                              have p180 : 0 ≤ (x7_3 : Int) := of_decide_eq_true (by first | (with_reducible assumption) | assumption)
                              have q180 : x7_3 < (l0_3.length : Int) := of_decide_eq_true (by first | (with_reducible assumption) | assumption)
                              obtain ⟨ad180, e180, hx180_0, hx180_1⟩ := at_T35 HR0_3.out x7_3 p180 q180
                              cases e180
                              replace hx180_0 := (HB.out.cell (World.block_lt_of_cell? w _ hx180_0)).trans hx180_0
                              replace hx180_1 := (HB.out.cell (World.block_lt_of_cell? w _ hx180_1)).trans hx180_1
                              replace p180 := eq_true p180
                              replace q180 := eq_true q180
                              go_wp2_with (first | ((with_reducible refine gate_callee (f := 44) rfl ?_); refine goesL_ (some 48) rfl rfl Try.func44 (by kernel_rfl) rfl #[.string ((rd_T35 l0_3 x7_3).f0)] rfl (by (try simp only [List.map_toArray, List.map_cons, List.map_nil]); first | done | rfl | (simp only [List.length_drop, List.length_take]; rfl)) ?_; (with_reducible refine (registrarref03_MayG.calls ((rd_T35 l0_3 x7_3).f0) true _ A21.out).mono ?_); rintro e w32 ⟨rfl, hb⟩; refine ⟨_, rfl, ?_⟩; have n0_ := Aside0.mk (Kd.R_below (by (with_reducible repeat (first | apply Kd.R_alloc | apply Kd.R_drewN | apply Kd.R_drew)); exact HO_5.out) hb); have n1_ := Aside0.mk (blk_below (g := gb174) (o := .cells #[.string a0_0, .string a0_1, .slice A0_2 l0_2.length c0_2, .slice (some ad180) l0_3.length c0_3] 26 (0, 0)) (by (with_reducible repeat (first | refine blk_drewN ?_ _ | refine blk_drew ?_ | refine blk_alloc ?_ _)); exact BK174.out) hb); have n2_ := Aside0.mk (below_step (by repeat (first | (with_reducible first | exact HB.out | apply below_alloc | apply pw_below_drewN | apply below_drew1 | refine below_set ?_ GE174.out) | exact HB.out)) hb); clear HO_5; clear BK174; clear HB; have HO_5 := n0_; have BK174 := n1_; have HB := n2_; clear n0_ n1_ n2_; (try clear hb); (try clear hb2); (try clear hk); (try clear hi); have hcz33_0 : w32.cell? ⟨gb174, 0, none⟩ = some (.string a0_0) := (blk_cell BK174.out 0).trans rfl; have hcz33_1 : w32.cell? ⟨gb174, 1, none⟩ = some (.string a0_1) := (blk_cell BK174.out 1).trans rfl; have hcz33_2 : w32.cell? ⟨gb174, 2, none⟩ = some (.slice A0_2 l0_2.length c0_2) := (blk_cell BK174.out 2).trans rfl; have hcz33_3 : w32.cell? ⟨gb174, 3, none⟩ = some (.slice (some ad180) l0_3.length c0_3) := (blk_cell BK174.out 3).trans rfl; have hfz33_0 := blk_frozen BK174.out 0; have hfz33_1 := blk_frozen BK174.out 1; have hfz33_2 := blk_frozen BK174.out 2; have hfz33_3 := blk_frozen BK174.out 3; have p182 : 0 ≤ (x7_3 : Int) := of_decide_eq_true (by first | (with_reducible assumption) | assumption); have q182 : x7_3 < (l0_3.length : Int) := of_decide_eq_true (by first | (with_reducible assumption) | assumption); obtain ⟨ad182, e182, hx182_0, hx182_1⟩ := at_T35 HR0_3.out x7_3 p182 q182; obtain rfl : ad180 = ad182 := (by injection e182); replace hx182_0 := (HB.out.cell (World.block_lt_of_cell? w _ hx182_0)).trans hx182_0; replace hx182_1 := (HB.out.cell (World.block_lt_of_cell? w _ hx182_1)).trans hx182_1; replace p182 := eq_true p182; replace q182 := eq_true q182) | ((with_reducible refine gate_builtin (b := .append) (xs := #[.tmp 51, .tmp 58]) rfl ?_); (try (refine gate_guard (by rfl) ?_; dsimp only)); at_builtin; refine Kd.R_append Kd.string (w0 := w) w.heap.size rfl (.tmp 51) (.tmp 58) 23 9 (.string ⟨#[]⟩) 16 rfl Try.underlying23 info9 rfl (by decide) (by omega) u5 x5_3 ((rd_T35 l0_3 x7_3).f0) [.string ((rd_T35 l0_3 x7_3).f0)] (fun _ => True) (fun _ => False) rfl rfl ?aP (fun _ hk => hk.elim) ?aF ?aO ?aB ?aS ?aL ?_; (case aP => exact rfl); (case aB => exact (by repeat (first | (with_reducible first | exact HB.out | apply below_alloc | apply pw_below_drewN | apply below_drew1 | refine below_set ?_ GE174.out) | exact HB.out))); (case aF => exact (fun _ _ => trivial)); (case aO => exact (by (with_reducible repeat (first | apply Kd.R_alloc | apply Kd.R_drewN | apply Kd.R_drew)); exact HO_5.out)); (case aS => exact (below_size (by repeat (first | (with_reducible first | exact HB.out | apply below_alloc | apply pw_below_drewN | apply below_drew1 | refine below_set ?_ GE174.out) | exact HB.out)))); (case aL => have := LMc23.out; omega); intro v184 w34 ho hb hg hat; rw [← Ny183.out] at ho; have n0_ := Aside0.mk (blk_grown (g := gb174) (o := .cells #[.string a0_0, .string a0_1, .slice A0_2 l0_2.length c0_2, .slice (some ad180) l0_3.length c0_3] 26 (0, 0)) (by (with_reducible repeat (first | refine blk_drewN ?_ _ | refine blk_drew ?_ | refine blk_alloc ?_ _)); exact BK174.out) hg (Kd.R_ne HO_5.out BK174.out (by decide))); have n1_ := Aside0.mk (hb); have n2_ := Aside0.mk (ho); clear BK174; clear HB; clear HO_5; have BK174 := n0_; have HB := n1_; have HO185 := n2_; clear n0_ n1_ n2_; clear ho hb hg hat; have hcz35_0 : w34.cell? ⟨gb174, 0, none⟩ = some (.string a0_0) := (blk_cell BK174.out 0).trans rfl; have hcz35_1 : w34.cell? ⟨gb174, 1, none⟩ = some (.string a0_1) := (blk_cell BK174.out 1).trans rfl; have hcz35_2 : w34.cell? ⟨gb174, 2, none⟩ = some (.slice A0_2 l0_2.length c0_2) := (blk_cell BK174.out 2).trans rfl; have hcz35_3 : w34.cell? ⟨gb174, 3, none⟩ = some (.slice (some ad180) l0_3.length c0_3) := (blk_cell BK174.out 3).trans rfl; have hfz35_0 := blk_frozen BK174.out 0; have hfz35_1 := blk_frozen BK174.out 1; have hfz35_2 := blk_frozen BK174.out 2; have hfz35_3 := blk_frozen BK174.out 3; have p186 : 0 ≤ (x7_3 : Int) := of_decide_eq_true (by first | (with_reducible assumption) | assumption); have q186 : x7_3 < (l0_3.length : Int) := of_decide_eq_true (by first | (with_reducible assumption) | assumption); obtain ⟨ad186, e186, hx186_0, hx186_1⟩ := at_T35 HR0_3.out x7_3 p186 q186; obtain rfl : ad180 = ad186 := (by injection e186); replace hx186_0 := (HB.out.cell (World.block_lt_of_cell? w _ hx186_0)).trans hx186_0; replace hx186_1 := (HB.out.cell (World.block_lt_of_cell? w _ hx186_1)).trans hx186_1; replace p186 := eq_true p186; replace q186 := eq_true q186))
                              go_roundg k3
                              case measure => have := HJ3.out; have := HJ11.out; have := HK3.out; omega
                              case rel => exact ⟨(y183), (false), (wrap64 (x7_3 + 1)), (by first | rfl | (simp; done) | (simp [*]; done)), (by first | rfl | (simp; done) | (simp [*]; done)), H', ⟨by have := HJ3.out; have := HJ11.out; have := HK3.out; omega⟩, ⟨by (with_reducible repeat (first | apply Kd.R_alloc | apply Kd.R_drewN | apply Kd.R_drew)); exact HO185.out⟩, ⟨by (with_reducible repeat (first | refine blk_drewN ?_ _ | refine blk_drew ?_ | refine blk_alloc ?_ _)); exact BK174.out⟩, ⟨by repeat (first | (with_reducible first | exact HB.out | apply below_alloc | apply pw_below_drewN | apply below_drew1 | refine below_set ?_ GE174.out) | exact HB.out)⟩⟩
                          · replace c24 := Bool.eq_false_iff.mpr c24
                            subst c24
                            have H1 : (registrarref04_May.l0 k3 y183 false (wrap64 (x7_3 + 1)) a0_0 a0_1 l0_2 l0_3) = some r := by rw [if_neg (show ¬ (false = true) by decide)] at H; exact H
                            clear H
                            have H := H1
                            clear H1
                            have H' := Aside0.mk H
                            clear H
                            have hcz36_0 : wr.cell? ⟨gb174, 0, none⟩ = some (.string a0_0) := (blk_cell BK174.out 0).trans rfl
                            have hcz36_1 : wr.cell? ⟨gb174, 1, none⟩ = some (.string a0_1) := (blk_cell BK174.out 1).trans rfl
                            have hcz36_2 : wr.cell? ⟨gb174, 2, none⟩ = some (.slice A0_2 l0_2.length c0_2) := (blk_cell BK174.out 2).trans rfl
                            have hcz36_3 : wr.cell? ⟨gb174, 3, none⟩ = some (.slice A0_3 l0_3.length c0_3) := (blk_cell BK174.out 3).trans rfl
                            have hfz36_0 := blk_frozen BK174.out 0
                            have hfz36_1 := blk_frozen BK174.out 1
                            have hfz36_2 := blk_frozen BK174.out 2
                            have hfz36_3 := blk_frozen BK174.out 3
                            have p180 : 0 ≤ (x7_3 : Int) := of_decide_eq_true (by first | (with_reducible assumption) | assumption)
                            have q180 : x7_3 < (l0_3.length : Int) := of_decide_eq_true (by first | (with_reducible assumption) | assumption)
                            obtain ⟨ad180, e180, hx180_0, hx180_1⟩ := at_T35 HR0_3.out x7_3 p180 q180
                            cases e180
                            replace hx180_0 := (HB.out.cell (World.block_lt_of_cell? w _ hx180_0)).trans hx180_0
                            replace hx180_1 := (HB.out.cell (World.block_lt_of_cell? w _ hx180_1)).trans hx180_1
                            replace p180 := eq_true p180
                            replace q180 := eq_true q180
                            go_wp2_with (first | ((with_reducible refine gate_callee (f := 44) rfl ?_); refine goesL_ (some 48) rfl rfl Try.func44 (by kernel_rfl) rfl #[.string ((rd_T35 l0_3 x7_3).f0)] rfl (by (try simp only [List.map_toArray, List.map_cons, List.map_nil]); first | done | rfl | (simp only [List.length_drop, List.length_take]; rfl)) ?_; (with_reducible refine (registrarref03_MayG.calls ((rd_T35 l0_3 x7_3).f0) true _ A21.out).mono ?_); rintro e w37 ⟨rfl, hb⟩; refine ⟨_, rfl, ?_⟩; have n0_ := Aside0.mk (Kd.R_below (by (with_reducible repeat (first | apply Kd.R_alloc | apply Kd.R_drewN | apply Kd.R_drew)); exact HO_5.out) hb); have n1_ := Aside0.mk (blk_below (g := gb174) (o := .cells #[.string a0_0, .string a0_1, .slice A0_2 l0_2.length c0_2, .slice (some ad180) l0_3.length c0_3] 26 (0, 0)) (by (with_reducible repeat (first | refine blk_drewN ?_ _ | refine blk_drew ?_ | refine blk_alloc ?_ _)); exact BK174.out) hb); have n2_ := Aside0.mk (below_step (by repeat (first | (with_reducible first | exact HB.out | apply below_alloc | apply pw_below_drewN | apply below_drew1 | refine below_set ?_ GE174.out) | exact HB.out)) hb); clear HO_5; clear BK174; clear HB; have HO_5 := n0_; have BK174 := n1_; have HB := n2_; clear n0_ n1_ n2_; (try clear hb); (try clear hb2); (try clear hk); (try clear hi); have hcz38_0 : w37.cell? ⟨gb174, 0, none⟩ = some (.string a0_0) := (blk_cell BK174.out 0).trans rfl; have hcz38_1 : w37.cell? ⟨gb174, 1, none⟩ = some (.string a0_1) := (blk_cell BK174.out 1).trans rfl; have hcz38_2 : w37.cell? ⟨gb174, 2, none⟩ = some (.slice A0_2 l0_2.length c0_2) := (blk_cell BK174.out 2).trans rfl; have hcz38_3 : w37.cell? ⟨gb174, 3, none⟩ = some (.slice (some ad180) l0_3.length c0_3) := (blk_cell BK174.out 3).trans rfl; have hfz38_0 := blk_frozen BK174.out 0; have hfz38_1 := blk_frozen BK174.out 1; have hfz38_2 := blk_frozen BK174.out 2; have hfz38_3 := blk_frozen BK174.out 3; have p182 : 0 ≤ (x7_3 : Int) := of_decide_eq_true (by first | (with_reducible assumption) | assumption); have q182 : x7_3 < (l0_3.length : Int) := of_decide_eq_true (by first | (with_reducible assumption) | assumption); obtain ⟨ad182, e182, hx182_0, hx182_1⟩ := at_T35 HR0_3.out x7_3 p182 q182; obtain rfl : ad180 = ad182 := (by injection e182); replace hx182_0 := (HB.out.cell (World.block_lt_of_cell? w _ hx182_0)).trans hx182_0; replace hx182_1 := (HB.out.cell (World.block_lt_of_cell? w _ hx182_1)).trans hx182_1; replace p182 := eq_true p182; replace q182 := eq_true q182) | ((with_reducible refine gate_builtin (b := .append) (xs := #[.tmp 51, .tmp 58]) rfl ?_); (try (refine gate_guard (by rfl) ?_; dsimp only)); at_builtin; refine Kd.R_append Kd.string (w0 := w) w.heap.size rfl (.tmp 51) (.tmp 58) 23 9 (.string ⟨#[]⟩) 16 rfl Try.underlying23 info9 rfl (by decide) (by omega) u5 x5_3 ((rd_T35 l0_3 x7_3).f0) [.string ((rd_T35 l0_3 x7_3).f0)] (fun _ => True) (fun _ => False) rfl rfl ?aP (fun _ hk => hk.elim) ?aF ?aO ?aB ?aS ?aL ?_; (case aP => exact rfl); (case aB => exact (by repeat (first | (with_reducible first | exact HB.out | apply below_alloc | apply pw_below_drewN | apply below_drew1 | refine below_set ?_ GE174.out) | exact HB.out))); (case aF => exact (fun _ _ => trivial)); (case aO => exact (by (with_reducible repeat (first | apply Kd.R_alloc | apply Kd.R_drewN | apply Kd.R_drew)); exact HO_5.out)); (case aS => exact (below_size (by repeat (first | (with_reducible first | exact HB.out | apply below_alloc | apply pw_below_drewN | apply below_drew1 | refine below_set ?_ GE174.out) | exact HB.out)))); (case aL => have := LMc23.out; omega); intro v184 w39 ho hb hg hat; rw [← Ny183.out] at ho; have n0_ := Aside0.mk (blk_grown (g := gb174) (o := .cells #[.string a0_0, .string a0_1, .slice A0_2 l0_2.length c0_2, .slice (some ad180) l0_3.length c0_3] 26 (0, 0)) (by (with_reducible repeat (first | refine blk_drewN ?_ _ | refine blk_drew ?_ | refine blk_alloc ?_ _)); exact BK174.out) hg (Kd.R_ne HO_5.out BK174.out (by decide))); have n1_ := Aside0.mk (hb); have n2_ := Aside0.mk (ho); clear BK174; clear HB; clear HO_5; have BK174 := n0_; have HB := n1_; have HO185 := n2_; clear n0_ n1_ n2_; clear ho hb hg hat))
                            go_roundg k3
                            case measure => have := HJ3.out; have := HJ11.out; have := HK3.out; omega
                            case rel => exact ⟨(y183), (false), (wrap64 (x7_3 + 1)), (by first | rfl | (simp; done) | (simp [*]; done)), (by first | rfl | (simp; done) | (simp [*]; done)), H', ⟨by have := HJ3.out; have := HJ11.out; have := HK3.out; omega⟩, ⟨by (with_reducible repeat (first | apply Kd.R_alloc | apply Kd.R_drewN | apply Kd.R_drew)); exact HO185.out⟩, ⟨by (with_reducible repeat (first | refine blk_drewN ?_ _ | refine blk_drew ?_ | refine blk_alloc ?_ _)); exact BK174.out⟩, ⟨by repeat (first | (with_reducible first | exact HB.out | apply below_alloc | apply pw_below_drewN | apply below_drew1 | refine below_set ?_ GE174.out) | exact HB.out)⟩⟩
                        · rw [if_neg c23] at H
                          exact absurd H (by simp)
                      · replace c22 := Bool.eq_false_iff.mpr c22
                        subst c22
                        have H1 : (some 5) = some r := by rw [if_neg (show ¬ (false = true) by decide)] at H; exact H
                        clear H
                        have H := H1
                        clear H1
                        obtain rfl := Option.some.inj H
                        have hcz40_0 : wr.cell? ⟨gb174, 0, none⟩ = some (.string a0_0) := (blk_cell BK174.out 0).trans rfl
                        have hcz40_1 : wr.cell? ⟨gb174, 1, none⟩ = some (.string a0_1) := (blk_cell BK174.out 1).trans rfl
                        have hcz40_2 : wr.cell? ⟨gb174, 2, none⟩ = some (.slice A0_2 l0_2.length c0_2) := (blk_cell BK174.out 2).trans rfl
                        have hcz40_3 : wr.cell? ⟨gb174, 3, none⟩ = some (.slice A0_3 l0_3.length c0_3) := (blk_cell BK174.out 3).trans rfl
                        have hfz40_0 := blk_frozen BK174.out 0
                        have hfz40_1 := blk_frozen BK174.out 1
                        have hfz40_2 := blk_frozen BK174.out 2
                        have hfz40_3 := blk_frozen BK174.out 3
                        have p180 : 0 ≤ (x7_3 : Int) := of_decide_eq_true (by first | (with_reducible assumption) | assumption)
                        have q180 : x7_3 < (l0_3.length : Int) := of_decide_eq_true (by first | (with_reducible assumption) | assumption)
                        obtain ⟨ad180, e180, hx180_0, hx180_1⟩ := at_T35 HR0_3.out x7_3 p180 q180
                        cases e180
                        replace hx180_0 := (HB.out.cell (World.block_lt_of_cell? w _ hx180_0)).trans hx180_0
                        replace hx180_1 := (HB.out.cell (World.block_lt_of_cell? w _ hx180_1)).trans hx180_1
                        replace p180 := eq_true p180
                        replace q180 := eq_true q180
                        go_wp2_with (first | ((with_reducible refine gate_callee (f := 44) rfl ?_); refine goesL_ (some 48) rfl rfl Try.func44 (by kernel_rfl) rfl #[.string ((rd_T35 l0_3 x7_3).f0)] rfl (by (try simp only [List.map_toArray, List.map_cons, List.map_nil]); first | done | rfl | (simp only [List.length_drop, List.length_take]; rfl)) ?_; (with_reducible refine (registrarref03_MayG.calls ((rd_T35 l0_3 x7_3).f0) false _ A21.out).mono ?_); rintro e w41 ⟨rfl, hb⟩; refine ⟨_, rfl, ?_⟩; have n0_ := Aside0.mk (Kd.R_below (by (with_reducible repeat (first | apply Kd.R_alloc | apply Kd.R_drewN | apply Kd.R_drew)); exact HO_5.out) hb); have n1_ := Aside0.mk (blk_below (g := gb174) (o := .cells #[.string a0_0, .string a0_1, .slice A0_2 l0_2.length c0_2, .slice (some ad180) l0_3.length c0_3] 26 (0, 0)) (by (with_reducible repeat (first | refine blk_drewN ?_ _ | refine blk_drew ?_ | refine blk_alloc ?_ _)); exact BK174.out) hb); have n2_ := Aside0.mk (below_step (by repeat (first | (with_reducible first | exact HB.out | apply below_alloc | apply pw_below_drewN | apply below_drew1 | refine below_set ?_ GE174.out) | exact HB.out)) hb); clear HO_5; clear BK174; clear HB; have HO_5 := n0_; have BK174 := n1_; have HB := n2_; clear n0_ n1_ n2_; (try clear hb); (try clear hb2); (try clear hk); (try clear hi)))
                        go_ret
                        exact ⟨by first | rfl | (simp [errW_none, errW_some] <;> rfl) | (simp [*, errW_none, errW_some] <;> rfl), by repeat (first | (with_reducible first | exact HB.out | apply below_alloc | apply pw_below_drewN | apply below_drew1 | refine below_set ?_ GE174.out) | exact HB.out)⟩
                    · rw [if_neg c20] at H
                      exact absurd H (by simp)
                  · rw [if_neg c19] at H
                    have c19b0 : decide (x7_3 < (l0_3.length : Int)) = false := decide_eq_false c19
                    clear c19
                    replace H := Option.bind_eq_some_iff.mp H
                    obtain ⟨t188, A420, H⟩ := H
                    replace H : (if t188 = true then ((registrarref04_RiseG.f l0_2).bind fun t189 => ((registrarref04_RiseG.f x5_3).bind fun t190 => (if x6_3 = true then (if t189 = true then (if t190 = true then (some 0) else (some 1)) else (some 1)) else (some 1)))) else (some 5)) = some r := H
                    have A42 := Aside0.mk A420
                    clear A420
                    by_cases c43 : t188 = true
                    · subst c43
                      have H1 : ((registrarref04_RiseG.f l0_2).bind fun t189 => ((registrarref04_RiseG.f x5_3).bind fun t190 => (if x6_3 = true then (if t189 = true then (if t190 = true then (some 0) else (some 1)) else (some 1)) else (some 1)))) = some r := by rw [if_pos rfl] at H; exact H
                      clear H
                      have H := H1
                      clear H1
                      replace H := Option.bind_eq_some_iff.mp H
                      obtain ⟨t189, A440, H⟩ := H
                      replace H : ((registrarref04_RiseG.f x5_3).bind fun t190 => (if x6_3 = true then (if t189 = true then (if t190 = true then (some 0) else (some 1)) else (some 1)) else (some 1))) = some r := H
                      have A44 := Aside0.mk A440
                      clear A440
                      replace H := Option.bind_eq_some_iff.mp H
                      obtain ⟨t190, A450, H⟩ := H
                      replace H : (if x6_3 = true then (if t189 = true then (if t190 = true then (some 0) else (some 1)) else (some 1)) else (some 1)) = some r := H
                      have A45 := Aside0.mk A450
                      clear A450
                      by_cases c46 : x6_3 = true
                      · subst c46
                        have H1 : (if t189 = true then (if t190 = true then (some 0) else (some 1)) else (some 1)) = some r := by rw [if_pos rfl] at H; exact H
                        clear H
                        have H := H1
                        clear H1
                        by_cases c47 : t189 = true
                        · subst c47
                          have H1 : (if t190 = true then (some 0) else (some 1)) = some r := by rw [if_pos rfl] at H; exact H
                          clear H
                          have H := H1
                          clear H1
                          by_cases c48 : t190 = true
                          · subst c48
                            have H1 : (some 0) = some r := by rw [if_pos rfl] at H; exact H
                            clear H
                            have H := H1
                            clear H1
                            obtain rfl := Option.some.inj H
                            have hcz49_0 : wr.cell? ⟨gb174, 0, none⟩ = some (.string a0_0) := (blk_cell BK174.out 0).trans rfl
                            have hcz49_1 : wr.cell? ⟨gb174, 1, none⟩ = some (.string a0_1) := (blk_cell BK174.out 1).trans rfl
                            have hcz49_2 : wr.cell? ⟨gb174, 2, none⟩ = some (.slice A0_2 l0_2.length c0_2) := (blk_cell BK174.out 2).trans rfl
                            have hcz49_3 : wr.cell? ⟨gb174, 3, none⟩ = some (.slice A0_3 l0_3.length c0_3) := (blk_cell BK174.out 3).trans rfl
                            have hfz49_0 := blk_frozen BK174.out 0
                            have hfz49_1 := blk_frozen BK174.out 1
                            have hfz49_2 := blk_frozen BK174.out 2
                            have hfz49_3 := blk_frozen BK174.out 3
                            go_wp2_with (first | ((with_reducible refine gate_callee (f := 45) rfl ?_); refine goesL_ (some 81) rfl rfl Try.func45 (by kernel_rfl) rfl #[.slice A0_2 l0_2.length c0_2] rfl (by (try simp only [List.map_toArray, List.map_cons, List.map_nil]); first | done | rfl | (simp only [List.length_drop, List.length_take]; rfl)) ?_; (with_reducible refine (registrarref04_tagsG.calls _ _ l0_2 true _ ?side1 ?side2 A42.out).mono ?_); (case side1 => repeat (first | exact (Kd.C_below HR0_2.out HB.out) | (with_reducible refine Kd.C_alloc ?_ _) | (with_reducible refine Kd.C_drewN ?_ _) | (with_reducible refine Kd.C_drew ?_))); (case side2 => exact HC0_2.out); rintro e w50 ⟨rfl, hb⟩; refine ⟨_, rfl, ?_⟩; have n0_ := Aside0.mk (Kd.R_below (by (with_reducible repeat (first | apply Kd.R_alloc | apply Kd.R_drewN | apply Kd.R_drew)); exact HO_5.out) hb); have n1_ := Aside0.mk (blk_below (g := gb174) (o := .cells #[.string a0_0, .string a0_1, .slice A0_2 l0_2.length c0_2, .slice A0_3 l0_3.length c0_3] 26 (0, 0)) (by (with_reducible repeat (first | refine blk_drewN ?_ _ | refine blk_drew ?_ | refine blk_alloc ?_ _)); exact BK174.out) hb); have n2_ := Aside0.mk (below_step (by repeat (first | (with_reducible first | exact HB.out | apply below_alloc | apply pw_below_drewN | apply below_drew1 | refine below_set ?_ GE174.out) | exact HB.out)) hb); clear HO_5; clear BK174; clear HB; have HO_5 := n0_; have BK174 := n1_; have HB := n2_; clear n0_ n1_ n2_; (try clear hb); (try clear hb2); (try clear hk); (try clear hi); have hcz51_0 : w50.cell? ⟨gb174, 0, none⟩ = some (.string a0_0) := (blk_cell BK174.out 0).trans rfl; have hcz51_1 : w50.cell? ⟨gb174, 1, none⟩ = some (.string a0_1) := (blk_cell BK174.out 1).trans rfl; have hcz51_2 : w50.cell? ⟨gb174, 2, none⟩ = some (.slice A0_2 l0_2.length c0_2) := (blk_cell BK174.out 2).trans rfl; have hcz51_3 : w50.cell? ⟨gb174, 3, none⟩ = some (.slice A0_3 l0_3.length c0_3) := (blk_cell BK174.out 3).trans rfl; have hfz51_0 := blk_frozen BK174.out 0; have hfz51_1 := blk_frozen BK174.out 1; have hfz51_2 := blk_frozen BK174.out 2; have hfz51_3 := blk_frozen BK174.out 3) | ((with_reducible refine gate_callee (f := 46) rfl ?_); refine goesL_ (some 86) rfl rfl Try.func46 (by kernel_rfl) rfl #[.slice A0_2 l0_2.length c0_2] rfl (by (try simp only [List.map_toArray, List.map_cons, List.map_nil]); first | done | rfl | (simp only [List.length_drop, List.length_take]; rfl)) ?_; (with_reducible refine (registrarref04_RiseG.calls _ _ l0_2 true _ ?side1 ?side2 A44.out).mono ?_); (case side1 => repeat (first | exact (Kd.C_below HR0_2.out HB.out) | (with_reducible refine Kd.C_alloc ?_ _) | (with_reducible refine Kd.C_drewN ?_ _) | (with_reducible refine Kd.C_drew ?_))); (case side2 => exact HC0_2.out); rintro e w' ⟨rfl, ⟨nd, rfl⟩⟩; refine ⟨_, rfl, ?_⟩; obtain ⟨Ao52, co52, eo52⟩ := Kd.R_slice HO_5.out; subst eo52) | ((with_reducible refine gate_callee (f := 46) rfl ?_); refine goesL_ (some 88) rfl rfl Try.func46 (by kernel_rfl) rfl #[.slice Ao52 x5_3.length co52] rfl (by (try simp only [List.map_toArray, List.map_cons, List.map_nil]); first | done | rfl | (simp only [List.length_drop, List.length_take]; rfl)) ?_; (with_reducible refine (registrarref04_RiseG.calls _ _ x5_3 true _ ?side1 ?side2 A45.out).mono ?_); (case side1 => repeat (first | exact (Kd.R_reads' HO_5.out).2.2 | (with_reducible refine Kd.C_alloc ?_ _) | (with_reducible refine Kd.C_drewN ?_ _) | (with_reducible refine Kd.C_drew ?_))); (case side2 => exact (Kd.R_reads' HO_5.out).2.1); rintro e w' ⟨rfl, ⟨nd, rfl⟩⟩; refine ⟨_, rfl, ?_⟩))
                            go_ret
                            exact ⟨by first | rfl | (simp [errW_none, errW_some] <;> rfl) | (simp [*, errW_none, errW_some] <;> rfl), by repeat (first | (with_reducible first | exact HB.out | apply below_alloc | apply pw_below_drewN | apply below_drew1 | refine below_set ?_ GE174.out) | exact HB.out)⟩
                          · replace c48 := Bool.eq_false_iff.mpr c48
                            subst c48
                            have H1 : (some 1) = some r := by rw [if_neg (show ¬ (false = true) by decide)] at H; exact H
                            clear H
                            have H := H1
                            clear H1
                            obtain rfl := Option.some.inj H
                            have hcz53_0 : wr.cell? ⟨gb174, 0, none⟩ = some (.string a0_0) := (blk_cell BK174.out 0).trans rfl
                            have hcz53_1 : wr.cell? ⟨gb174, 1, none⟩ = some (.string a0_1) := (blk_cell BK174.out 1).trans rfl
                            have hcz53_2 : wr.cell? ⟨gb174, 2, none⟩ = some (.slice A0_2 l0_2.length c0_2) := (blk_cell BK174.out 2).trans rfl
                            have hcz53_3 : wr.cell? ⟨gb174, 3, none⟩ = some (.slice A0_3 l0_3.length c0_3) := (blk_cell BK174.out 3).trans rfl
                            have hfz53_0 := blk_frozen BK174.out 0
                            have hfz53_1 := blk_frozen BK174.out 1
                            have hfz53_2 := blk_frozen BK174.out 2
                            have hfz53_3 := blk_frozen BK174.out 3
                            go_wp2_with (first | ((with_reducible refine gate_callee (f := 45) rfl ?_); refine goesL_ (some 81) rfl rfl Try.func45 (by kernel_rfl) rfl #[.slice A0_2 l0_2.length c0_2] rfl (by (try simp only [List.map_toArray, List.map_cons, List.map_nil]); first | done | rfl | (simp only [List.length_drop, List.length_take]; rfl)) ?_; (with_reducible refine (registrarref04_tagsG.calls _ _ l0_2 true _ ?side1 ?side2 A42.out).mono ?_); (case side1 => repeat (first | exact (Kd.C_below HR0_2.out HB.out) | (with_reducible refine Kd.C_alloc ?_ _) | (with_reducible refine Kd.C_drewN ?_ _) | (with_reducible refine Kd.C_drew ?_))); (case side2 => exact HC0_2.out); rintro e w54 ⟨rfl, hb⟩; refine ⟨_, rfl, ?_⟩; have n0_ := Aside0.mk (Kd.R_below (by (with_reducible repeat (first | apply Kd.R_alloc | apply Kd.R_drewN | apply Kd.R_drew)); exact HO_5.out) hb); have n1_ := Aside0.mk (blk_below (g := gb174) (o := .cells #[.string a0_0, .string a0_1, .slice A0_2 l0_2.length c0_2, .slice A0_3 l0_3.length c0_3] 26 (0, 0)) (by (with_reducible repeat (first | refine blk_drewN ?_ _ | refine blk_drew ?_ | refine blk_alloc ?_ _)); exact BK174.out) hb); have n2_ := Aside0.mk (below_step (by repeat (first | (with_reducible first | exact HB.out | apply below_alloc | apply pw_below_drewN | apply below_drew1 | refine below_set ?_ GE174.out) | exact HB.out)) hb); clear HO_5; clear BK174; clear HB; have HO_5 := n0_; have BK174 := n1_; have HB := n2_; clear n0_ n1_ n2_; (try clear hb); (try clear hb2); (try clear hk); (try clear hi); have hcz55_0 : w54.cell? ⟨gb174, 0, none⟩ = some (.string a0_0) := (blk_cell BK174.out 0).trans rfl; have hcz55_1 : w54.cell? ⟨gb174, 1, none⟩ = some (.string a0_1) := (blk_cell BK174.out 1).trans rfl; have hcz55_2 : w54.cell? ⟨gb174, 2, none⟩ = some (.slice A0_2 l0_2.length c0_2) := (blk_cell BK174.out 2).trans rfl; have hcz55_3 : w54.cell? ⟨gb174, 3, none⟩ = some (.slice A0_3 l0_3.length c0_3) := (blk_cell BK174.out 3).trans rfl; have hfz55_0 := blk_frozen BK174.out 0; have hfz55_1 := blk_frozen BK174.out 1; have hfz55_2 := blk_frozen BK174.out 2; have hfz55_3 := blk_frozen BK174.out 3) | ((with_reducible refine gate_callee (f := 46) rfl ?_); refine goesL_ (some 86) rfl rfl Try.func46 (by kernel_rfl) rfl #[.slice A0_2 l0_2.length c0_2] rfl (by (try simp only [List.map_toArray, List.map_cons, List.map_nil]); first | done | rfl | (simp only [List.length_drop, List.length_take]; rfl)) ?_; (with_reducible refine (registrarref04_RiseG.calls _ _ l0_2 true _ ?side1 ?side2 A44.out).mono ?_); (case side1 => repeat (first | exact (Kd.C_below HR0_2.out HB.out) | (with_reducible refine Kd.C_alloc ?_ _) | (with_reducible refine Kd.C_drewN ?_ _) | (with_reducible refine Kd.C_drew ?_))); (case side2 => exact HC0_2.out); rintro e w' ⟨rfl, ⟨nd, rfl⟩⟩; refine ⟨_, rfl, ?_⟩; obtain ⟨Ao56, co56, eo56⟩ := Kd.R_slice HO_5.out; subst eo56) | ((with_reducible refine gate_callee (f := 46) rfl ?_); refine goesL_ (some 88) rfl rfl Try.func46 (by kernel_rfl) rfl #[.slice Ao56 x5_3.length co56] rfl (by (try simp only [List.map_toArray, List.map_cons, List.map_nil]); first | done | rfl | (simp only [List.length_drop, List.length_take]; rfl)) ?_; (with_reducible refine (registrarref04_RiseG.calls _ _ x5_3 false _ ?side1 ?side2 A45.out).mono ?_); (case side1 => repeat (first | exact (Kd.R_reads' HO_5.out).2.2 | (with_reducible refine Kd.C_alloc ?_ _) | (with_reducible refine Kd.C_drewN ?_ _) | (with_reducible refine Kd.C_drew ?_))); (case side2 => exact (Kd.R_reads' HO_5.out).2.1); rintro e w' ⟨rfl, ⟨nd, rfl⟩⟩; refine ⟨_, rfl, ?_⟩))
                            go_ret
                            exact ⟨by first | rfl | (simp [errW_none, errW_some] <;> rfl) | (simp [*, errW_none, errW_some] <;> rfl), by repeat (first | (with_reducible first | exact HB.out | apply below_alloc | apply pw_below_drewN | apply below_drew1 | refine below_set ?_ GE174.out) | exact HB.out)⟩
                        · replace c47 := Bool.eq_false_iff.mpr c47
                          subst c47
                          have H1 : (some 1) = some r := by rw [if_neg (show ¬ (false = true) by decide)] at H; exact H
                          clear H
                          have H := H1
                          clear H1
                          obtain rfl := Option.some.inj H
                          have hcz57_0 : wr.cell? ⟨gb174, 0, none⟩ = some (.string a0_0) := (blk_cell BK174.out 0).trans rfl
                          have hcz57_1 : wr.cell? ⟨gb174, 1, none⟩ = some (.string a0_1) := (blk_cell BK174.out 1).trans rfl
                          have hcz57_2 : wr.cell? ⟨gb174, 2, none⟩ = some (.slice A0_2 l0_2.length c0_2) := (blk_cell BK174.out 2).trans rfl
                          have hcz57_3 : wr.cell? ⟨gb174, 3, none⟩ = some (.slice A0_3 l0_3.length c0_3) := (blk_cell BK174.out 3).trans rfl
                          have hfz57_0 := blk_frozen BK174.out 0
                          have hfz57_1 := blk_frozen BK174.out 1
                          have hfz57_2 := blk_frozen BK174.out 2
                          have hfz57_3 := blk_frozen BK174.out 3
                          go_wp2_with (first | ((with_reducible refine gate_callee (f := 45) rfl ?_); refine goesL_ (some 81) rfl rfl Try.func45 (by kernel_rfl) rfl #[.slice A0_2 l0_2.length c0_2] rfl (by (try simp only [List.map_toArray, List.map_cons, List.map_nil]); first | done | rfl | (simp only [List.length_drop, List.length_take]; rfl)) ?_; (with_reducible refine (registrarref04_tagsG.calls _ _ l0_2 true _ ?side1 ?side2 A42.out).mono ?_); (case side1 => repeat (first | exact (Kd.C_below HR0_2.out HB.out) | (with_reducible refine Kd.C_alloc ?_ _) | (with_reducible refine Kd.C_drewN ?_ _) | (with_reducible refine Kd.C_drew ?_))); (case side2 => exact HC0_2.out); rintro e w58 ⟨rfl, hb⟩; refine ⟨_, rfl, ?_⟩; have n0_ := Aside0.mk (Kd.R_below (by (with_reducible repeat (first | apply Kd.R_alloc | apply Kd.R_drewN | apply Kd.R_drew)); exact HO_5.out) hb); have n1_ := Aside0.mk (blk_below (g := gb174) (o := .cells #[.string a0_0, .string a0_1, .slice A0_2 l0_2.length c0_2, .slice A0_3 l0_3.length c0_3] 26 (0, 0)) (by (with_reducible repeat (first | refine blk_drewN ?_ _ | refine blk_drew ?_ | refine blk_alloc ?_ _)); exact BK174.out) hb); have n2_ := Aside0.mk (below_step (by repeat (first | (with_reducible first | exact HB.out | apply below_alloc | apply pw_below_drewN | apply below_drew1 | refine below_set ?_ GE174.out) | exact HB.out)) hb); clear HO_5; clear BK174; clear HB; have HO_5 := n0_; have BK174 := n1_; have HB := n2_; clear n0_ n1_ n2_; (try clear hb); (try clear hb2); (try clear hk); (try clear hi); have hcz59_0 : w58.cell? ⟨gb174, 0, none⟩ = some (.string a0_0) := (blk_cell BK174.out 0).trans rfl; have hcz59_1 : w58.cell? ⟨gb174, 1, none⟩ = some (.string a0_1) := (blk_cell BK174.out 1).trans rfl; have hcz59_2 : w58.cell? ⟨gb174, 2, none⟩ = some (.slice A0_2 l0_2.length c0_2) := (blk_cell BK174.out 2).trans rfl; have hcz59_3 : w58.cell? ⟨gb174, 3, none⟩ = some (.slice A0_3 l0_3.length c0_3) := (blk_cell BK174.out 3).trans rfl; have hfz59_0 := blk_frozen BK174.out 0; have hfz59_1 := blk_frozen BK174.out 1; have hfz59_2 := blk_frozen BK174.out 2; have hfz59_3 := blk_frozen BK174.out 3) | ((with_reducible refine gate_callee (f := 46) rfl ?_); refine goesL_ (some 86) rfl rfl Try.func46 (by kernel_rfl) rfl #[.slice A0_2 l0_2.length c0_2] rfl (by (try simp only [List.map_toArray, List.map_cons, List.map_nil]); first | done | rfl | (simp only [List.length_drop, List.length_take]; rfl)) ?_; (with_reducible refine (registrarref04_RiseG.calls _ _ l0_2 false _ ?side1 ?side2 A44.out).mono ?_); (case side1 => repeat (first | exact (Kd.C_below HR0_2.out HB.out) | (with_reducible refine Kd.C_alloc ?_ _) | (with_reducible refine Kd.C_drewN ?_ _) | (with_reducible refine Kd.C_drew ?_))); (case side2 => exact HC0_2.out); rintro e w' ⟨rfl, ⟨nd, rfl⟩⟩; refine ⟨_, rfl, ?_⟩; obtain ⟨Ao60, co60, eo60⟩ := Kd.R_slice HO_5.out; subst eo60) | ((with_reducible refine gate_callee (f := 46) rfl ?_); refine goesL_ (some 88) rfl rfl Try.func46 (by kernel_rfl) rfl #[.slice Ao60 x5_3.length co60] rfl (by (try simp only [List.map_toArray, List.map_cons, List.map_nil]); first | done | rfl | (simp only [List.length_drop, List.length_take]; rfl)) ?_; (with_reducible refine (registrarref04_RiseG.calls _ _ x5_3 t190 _ ?side1 ?side2 A45.out).mono ?_); (case side1 => repeat (first | exact (Kd.R_reads' HO_5.out).2.2 | (with_reducible refine Kd.C_alloc ?_ _) | (with_reducible refine Kd.C_drewN ?_ _) | (with_reducible refine Kd.C_drew ?_))); (case side2 => exact (Kd.R_reads' HO_5.out).2.1); rintro e w' ⟨rfl, ⟨nd, rfl⟩⟩; refine ⟨_, rfl, ?_⟩))
                          go_ret
                          exact ⟨by first | rfl | (simp [errW_none, errW_some] <;> rfl) | (simp [*, errW_none, errW_some] <;> rfl), by repeat (first | (with_reducible first | exact HB.out | apply below_alloc | apply pw_below_drewN | apply below_drew1 | refine below_set ?_ GE174.out) | exact HB.out)⟩
                      · replace c46 := Bool.eq_false_iff.mpr c46
                        subst c46
                        have H1 : (some 1) = some r := by rw [if_neg (show ¬ (false = true) by decide)] at H; exact H
                        clear H
                        have H := H1
                        clear H1
                        obtain rfl := Option.some.inj H
                        have hcz61_0 : wr.cell? ⟨gb174, 0, none⟩ = some (.string a0_0) := (blk_cell BK174.out 0).trans rfl
                        have hcz61_1 : wr.cell? ⟨gb174, 1, none⟩ = some (.string a0_1) := (blk_cell BK174.out 1).trans rfl
                        have hcz61_2 : wr.cell? ⟨gb174, 2, none⟩ = some (.slice A0_2 l0_2.length c0_2) := (blk_cell BK174.out 2).trans rfl
                        have hcz61_3 : wr.cell? ⟨gb174, 3, none⟩ = some (.slice A0_3 l0_3.length c0_3) := (blk_cell BK174.out 3).trans rfl
                        have hfz61_0 := blk_frozen BK174.out 0
                        have hfz61_1 := blk_frozen BK174.out 1
                        have hfz61_2 := blk_frozen BK174.out 2
                        have hfz61_3 := blk_frozen BK174.out 3
                        go_wp2_with (first | ((with_reducible refine gate_callee (f := 45) rfl ?_); refine goesL_ (some 81) rfl rfl Try.func45 (by kernel_rfl) rfl #[.slice A0_2 l0_2.length c0_2] rfl (by (try simp only [List.map_toArray, List.map_cons, List.map_nil]); first | done | rfl | (simp only [List.length_drop, List.length_take]; rfl)) ?_; (with_reducible refine (registrarref04_tagsG.calls _ _ l0_2 true _ ?side1 ?side2 A42.out).mono ?_); (case side1 => repeat (first | exact (Kd.C_below HR0_2.out HB.out) | (with_reducible refine Kd.C_alloc ?_ _) | (with_reducible refine Kd.C_drewN ?_ _) | (with_reducible refine Kd.C_drew ?_))); (case side2 => exact HC0_2.out); rintro e w62 ⟨rfl, hb⟩; refine ⟨_, rfl, ?_⟩; have n0_ := Aside0.mk (Kd.R_below (by (with_reducible repeat (first | apply Kd.R_alloc | apply Kd.R_drewN | apply Kd.R_drew)); exact HO_5.out) hb); have n1_ := Aside0.mk (blk_below (g := gb174) (o := .cells #[.string a0_0, .string a0_1, .slice A0_2 l0_2.length c0_2, .slice A0_3 l0_3.length c0_3] 26 (0, 0)) (by (with_reducible repeat (first | refine blk_drewN ?_ _ | refine blk_drew ?_ | refine blk_alloc ?_ _)); exact BK174.out) hb); have n2_ := Aside0.mk (below_step (by repeat (first | (with_reducible first | exact HB.out | apply below_alloc | apply pw_below_drewN | apply below_drew1 | refine below_set ?_ GE174.out) | exact HB.out)) hb); clear HO_5; clear BK174; clear HB; have HO_5 := n0_; have BK174 := n1_; have HB := n2_; clear n0_ n1_ n2_; (try clear hb); (try clear hb2); (try clear hk); (try clear hi); have hcz63_0 : w62.cell? ⟨gb174, 0, none⟩ = some (.string a0_0) := (blk_cell BK174.out 0).trans rfl; have hcz63_1 : w62.cell? ⟨gb174, 1, none⟩ = some (.string a0_1) := (blk_cell BK174.out 1).trans rfl; have hcz63_2 : w62.cell? ⟨gb174, 2, none⟩ = some (.slice A0_2 l0_2.length c0_2) := (blk_cell BK174.out 2).trans rfl; have hcz63_3 : w62.cell? ⟨gb174, 3, none⟩ = some (.slice A0_3 l0_3.length c0_3) := (blk_cell BK174.out 3).trans rfl; have hfz63_0 := blk_frozen BK174.out 0; have hfz63_1 := blk_frozen BK174.out 1; have hfz63_2 := blk_frozen BK174.out 2; have hfz63_3 := blk_frozen BK174.out 3) | ((with_reducible refine gate_callee (f := 46) rfl ?_); refine goesL_ (some 86) rfl rfl Try.func46 (by kernel_rfl) rfl #[.slice A0_2 l0_2.length c0_2] rfl (by (try simp only [List.map_toArray, List.map_cons, List.map_nil]); first | done | rfl | (simp only [List.length_drop, List.length_take]; rfl)) ?_; (with_reducible refine (registrarref04_RiseG.calls _ _ l0_2 t189 _ ?side1 ?side2 A44.out).mono ?_); (case side1 => repeat (first | exact (Kd.C_below HR0_2.out HB.out) | (with_reducible refine Kd.C_alloc ?_ _) | (with_reducible refine Kd.C_drewN ?_ _) | (with_reducible refine Kd.C_drew ?_))); (case side2 => exact HC0_2.out); rintro e w' ⟨rfl, ⟨nd, rfl⟩⟩; refine ⟨_, rfl, ?_⟩; obtain ⟨Ao64, co64, eo64⟩ := Kd.R_slice HO_5.out; subst eo64) | ((with_reducible refine gate_callee (f := 46) rfl ?_); refine goesL_ (some 88) rfl rfl Try.func46 (by kernel_rfl) rfl #[.slice Ao64 x5_3.length co64] rfl (by (try simp only [List.map_toArray, List.map_cons, List.map_nil]); first | done | rfl | (simp only [List.length_drop, List.length_take]; rfl)) ?_; (with_reducible refine (registrarref04_RiseG.calls _ _ x5_3 t190 _ ?side1 ?side2 A45.out).mono ?_); (case side1 => repeat (first | exact (Kd.R_reads' HO_5.out).2.2 | (with_reducible refine Kd.C_alloc ?_ _) | (with_reducible refine Kd.C_drewN ?_ _) | (with_reducible refine Kd.C_drew ?_))); (case side2 => exact (Kd.R_reads' HO_5.out).2.1); rintro e w' ⟨rfl, ⟨nd, rfl⟩⟩; refine ⟨_, rfl, ?_⟩))
                        go_ret
                        exact ⟨by first | rfl | (simp [errW_none, errW_some] <;> rfl) | (simp [*, errW_none, errW_some] <;> rfl), by repeat (first | (with_reducible first | exact HB.out | apply below_alloc | apply pw_below_drewN | apply below_drew1 | refine below_set ?_ GE174.out) | exact HB.out)⟩
                    · replace c43 := Bool.eq_false_iff.mpr c43
                      subst c43
                      have H1 : (some 5) = some r := by rw [if_neg (show ¬ (false = true) by decide)] at H; exact H
                      clear H
                      have H := H1
                      clear H1
                      obtain rfl := Option.some.inj H
                      have hcz65_0 : wr.cell? ⟨gb174, 0, none⟩ = some (.string a0_0) := (blk_cell BK174.out 0).trans rfl
                      have hcz65_1 : wr.cell? ⟨gb174, 1, none⟩ = some (.string a0_1) := (blk_cell BK174.out 1).trans rfl
                      have hcz65_2 : wr.cell? ⟨gb174, 2, none⟩ = some (.slice A0_2 l0_2.length c0_2) := (blk_cell BK174.out 2).trans rfl
                      have hcz65_3 : wr.cell? ⟨gb174, 3, none⟩ = some (.slice A0_3 l0_3.length c0_3) := (blk_cell BK174.out 3).trans rfl
                      have hfz65_0 := blk_frozen BK174.out 0
                      have hfz65_1 := blk_frozen BK174.out 1
                      have hfz65_2 := blk_frozen BK174.out 2
                      have hfz65_3 := blk_frozen BK174.out 3
                      go_wp2_with (first | ((with_reducible refine gate_callee (f := 45) rfl ?_); refine goesL_ (some 81) rfl rfl Try.func45 (by kernel_rfl) rfl #[.slice A0_2 l0_2.length c0_2] rfl (by (try simp only [List.map_toArray, List.map_cons, List.map_nil]); first | done | rfl | (simp only [List.length_drop, List.length_take]; rfl)) ?_; (with_reducible refine (registrarref04_tagsG.calls _ _ l0_2 false _ ?side1 ?side2 A42.out).mono ?_); (case side1 => repeat (first | exact (Kd.C_below HR0_2.out HB.out) | (with_reducible refine Kd.C_alloc ?_ _) | (with_reducible refine Kd.C_drewN ?_ _) | (with_reducible refine Kd.C_drew ?_))); (case side2 => exact HC0_2.out); rintro e w66 ⟨rfl, hb⟩; refine ⟨_, rfl, ?_⟩; have n0_ := Aside0.mk (Kd.R_below (by (with_reducible repeat (first | apply Kd.R_alloc | apply Kd.R_drewN | apply Kd.R_drew)); exact HO_5.out) hb); have n1_ := Aside0.mk (blk_below (g := gb174) (o := .cells #[.string a0_0, .string a0_1, .slice A0_2 l0_2.length c0_2, .slice A0_3 l0_3.length c0_3] 26 (0, 0)) (by (with_reducible repeat (first | refine blk_drewN ?_ _ | refine blk_drew ?_ | refine blk_alloc ?_ _)); exact BK174.out) hb); have n2_ := Aside0.mk (below_step (by repeat (first | (with_reducible first | exact HB.out | apply below_alloc | apply pw_below_drewN | apply below_drew1 | refine below_set ?_ GE174.out) | exact HB.out)) hb); clear HO_5; clear BK174; clear HB; have HO_5 := n0_; have BK174 := n1_; have HB := n2_; clear n0_ n1_ n2_; (try clear hb); (try clear hb2); (try clear hk); (try clear hi)))
                      go_ret
                      exact ⟨by first | rfl | (simp [errW_none, errW_some] <;> rfl) | (simp [*, errW_none, errW_some] <;> rfl), by repeat (first | (with_reducible first | exact HB.out | apply below_alloc | apply pw_below_drewN | apply below_drew1 | refine below_set ?_ GE174.out) | exact HB.out)⟩

end Go.Proofs.Ytmnidohgnnpeiaa.Prt
namespace Go.Proofs.Ytmnidohgnnpeiaa.Prt
open Go.RowKit Go.Proofs.YtmnidohgnnpeiaaW.PrintWords Go.Proofs.YtmnidohgnnpeiaaW.PrintLast Go.Proofs.YtmnidohgnnpeiaaW.PrintMore Go.Proofs.Ytmnidohgnnpeiaa.Num Go.Proofs.Ytmnidohgnnpeiaa.Nam
set_option linter.unusedVariables false
set_option linter.unusedSimpArgs false

theorem drop_rdF (l : List S35) (i : Nat) (h : i < l.length) : l.drop i = rd_T35 l (i : Int) :: l.drop (i + 1) := by
  rw [List.drop_eq_getElem_cons h]
  unfold rd_T35
  rw [Int.toNat_natCast, List.getD_eq_getElem?_getD, List.getElem?_eq_getElem h]; rfl
theorem rdF_mem {l : List S35} {i : Nat} (h : i < l.length) : rd_T35 l (i : Int) ∈ l := getD_mem' h _
theorem all_any {α : Type} (p : α → Bool) (l : List α) : l.all p = !(l.any fun x => !p x) := by
  induction l with
  | nil => rfl
  | cons a r ih => simp only [List.all_cons, List.any_cons, ih, Bool.not_or, Bool.not_not]
def endE (fit : Bool) (names tags : List ByteArray) : Int := if (tags.all tagB) = false then 5 else if riseB tags = false ∨ riseB names = false ∨ fit = false then 1 else 0
theorem may04_loop (s t : ByteArray) (tags : List ByteArray) (fl : List S35) (ht : tags.length ≤ 9223372036854775807) (h3 : fitS tags = true) (h4 : ∀ x ∈ fl, x.f0.size ≤ 9223372036854775807) (h5 : fl.length < 8796093022208) :
    ∀ (n i k : Nat) (acc : List ByteArray) (fit : Bool), i + n = fl.length → acc.length = i → n < k → registrarref04_May.l0 k acc fit (i : Int) s t tags fl = some (if ((fl.drop i).any fun x => !mayL (bytesOf x.f0)) = true then 5 else endE (fit && !(fl.drop i).any overB) (acc ++ (fl.drop i).map (·.f0)) tags) := by
  intro n
  induction n with
  | zero =>
    intro i k acc fit hi ha hk
    obtain ⟨k, rfl⟩ : ∃ m, k = m + 1 := ⟨k - 1, by omega⟩
    have m1 : registrarref04_tagsG.f tags = some (tags.all tagB) := if_pos ⟨ht, h3⟩
    have m2 : registrarref04_RiseG.f tags = some (riseB tags) := if_pos ht
    have m3 : registrarref04_RiseG.f acc = some (riseB acc) := if_pos (by omega)
    rw [registrarref04_May.l0, if_neg (by omega), m1, m2, m3, List.drop_eq_nil_of_le (by omega)]
    simp only [Option.bind_some, List.any_nil, List.map_nil, List.append_nil, Bool.not_false, Bool.and_true]
    unfold endE
    cases tags.all tagB <;> cases fit <;> cases riseB tags <;> cases riseB acc <;> rfl
  | succ n ih =>
    intro i k acc fit hi ha hk
    obtain ⟨k, rfl⟩ : ∃ m, k = m + 1 := ⟨k - 1, by omega⟩
    have m1 : registrarref03_MayG.f (rd_T35 fl (i : Int)).f0 = some (mayL (bytesOf (rd_T35 fl (i : Int)).f0)) := if_pos (h4 _ (rdF_mem (by omega)))
    rw [registrarref04_May.l0, if_pos (by omega), if_pos (by omega), m1, drop_rdF fl i (by omega), List.any_cons, List.any_cons, List.map_cons]
    simp only [Option.bind_some]
    generalize rd_T35 fl (i : Int) = x
    cases hm : mayL (bytesOf x.f0) with
    | false => rfl
    | true =>
      rw [if_pos rfl, if_pos (by omega), succW i (by omega)]
      have e : ∀ f2, registrarref04_May.l0 k (acc ++ [x.f0]) f2 ((i + 1 : Nat) : Int) s t tags fl = some (if ((fl.drop (i + 1)).any fun x => !mayL (bytesOf x.f0)) = true then 5 else endE (f2 && !(fl.drop (i + 1)).any overB) (acc ++ x.f0 :: (fl.drop (i + 1)).map (·.f0)) tags) := by
        intro f2
        rw [ih (i + 1) k _ f2 (by omega) (by simp [ha]) (by omega), List.append_assoc]; rfl
      rw [e, e]
      simp only [Bool.not_true, Bool.false_or]
      cases fit with
      | false =>
        rw [if_neg (by decide)]; rfl
      | true =>
        rw [if_pos rfl]
        by_cases h1 : x.f1 ≥ -1099511627776
        · rw [if_pos h1]
          have e2 : overB x = !decide (x.f1 ≤ 1099511627776) := by
            unfold overB
            rw [Bool.eq_iff_iff]; simp only [decide_eq_true_eq, Bool.not_eq_true', decide_eq_false_iff_not]; omega
          rw [e2]
          cases decide (x.f1 ≤ 1099511627776) <;> simp
        · rw [if_neg h1]
          have e2 : overB x = true := by unfold overB; exact decide_eq_true (by omega)
          rw [e2]; simp
theorem mayE_val (s t : ByteArray) (tags : List ByteArray) (fl : List S35) (h1 : mayL (bytesOf s) = true) (h2 : mayL (bytesOf t) = true) (h3 : ¬ 6 < tags.length) (h4 : ¬ 4 < fl.length) :
    (if (fl.any fun x => !mayL (bytesOf x.f0)) = true then 5 else endE (!fl.any overB) (fl.map (·.f0)) tags) = mayE s t tags fl := by
  have e0 : mayE s t tags fl = if (tags.any fun s => !tagB s) = true ∨ ((fl.map (·.f0)).any fun s => !mayL (bytesOf s)) = true then 5 else if riseB tags = false ∨ riseB (fl.map (·.f0)) = false ∨ fl.any overB = true then 1 else 0 := by
    unfold mayE
    rw [if_neg (by rw [h1, h2]; simp), if_neg (by omega)]
  rw [e0]
  unfold endE
  rw [List.any_map, all_any]
  have e : (fl.any fun x => !mayL (bytesOf x.f0)) = fl.any ((fun s => !mayL (bytesOf s)) ∘ fun x => x.f0) := rfl
  rw [e]
  cases fl.any ((fun s => !mayL (bytesOf s)) ∘ fun x => x.f0) <;> cases (tags.any fun x => !tagB x) <;> cases riseB tags <;> cases riseB (fl.map (·.f0)) <;> cases fl.any overB <;> simp
def registrarref04_MayG.f (a0_0 : ByteArray) (a0_1 : ByteArray) (l0_2 : List ByteArray) (l0_3 : List (S35)) : Option (Int) := if fitE a0_0 a0_1 l0_2 l0_3 = true ∧ l0_2.length ≤ 9223372036854775807 then some (mayE a0_0 a0_1 l0_2 l0_3) else none
theorem registrarref04_MayG.val {a0_0 a0_1 : ByteArray} {l0_2 : List ByteArray} {l0_3 : List (S35)} {r : Int} (h : registrarref04_MayG.f a0_0 a0_1 l0_2 l0_3 = some r) : ∃ k, registrarref04_May.f k a0_0 a0_1 l0_2 l0_3 = some r := by
  unfold registrarref04_MayG.f at h
  by_cases hc : fitE a0_0 a0_1 l0_2 l0_3 = true ∧ l0_2.length ≤ 9223372036854775807
  · rw [if_pos hc] at h
    obtain rfl := Option.some.inj h
    obtain ⟨h1, h2, h3, h4, h5⟩ := fitE_iff.1 hc.1
    have m1 : registrarref03_MayG.f a0_0 = some (mayL (bytesOf a0_0)) := if_pos h1
    have m2 : registrarref03_MayG.f a0_1 = some (mayL (bytesOf a0_1)) := if_pos h2
    refine ⟨l0_3.length + 4, ?_⟩
    unfold registrarref04_May.f
    rw [m1, m2]
    simp only [Option.bind_some]
    cases q1 : mayL (bytesOf a0_0) with
    | false =>
      rw [if_neg (by decide), registrarref04_May.j0, if_pos rfl]
      unfold mayE; rw [if_pos (.inl q1)]
    | true =>
      rw [if_pos rfl, registrarref04_May.j0]
      cases q2 : mayL (bytesOf a0_1) with
      | false => rw [if_pos (by decide)]; unfold mayE; rw [if_pos (.inr q2)]
      | true =>
        rw [if_neg (by decide)]
        by_cases g1 : 6 < l0_2.length
        · rw [if_pos (by omega), registrarref04_May.j1, if_pos rfl]
          unfold mayE; rw [if_neg (by rw [q1, q2]; simp), if_pos (.inl g1)]
        · rw [if_neg (by omega), registrarref04_May.j1]
          by_cases g2 : 4 < l0_3.length
          · rw [if_pos (decide_eq_true (by omega))]
            unfold mayE; rw [if_neg (by rw [q1, q2]; simp), if_pos (.inr g2)]
          · rw [if_neg (by rw [decide_eq_true_iff]; omega), show (0 : Int) = ((0 : Nat) : Int) from rfl, may04_loop a0_0 a0_1 l0_2 l0_3 hc.2 (fitS_iff.2 h3) h4 h5 l0_3.length 0 _ [] true (by omega) rfl (by omega), List.drop_zero, List.nil_append, Bool.true_and, mayE_val _ _ _ _ q1 q2 g1 g2]
  · rw [if_neg hc] at h; cases h
theorem registrarref04_MayG.calls (a0_0 : ByteArray) (a0_1 : ByteArray) (A0_2 : Option Addr) (c0_2 : Nat) (l0_2 : List ByteArray) (A0_3 : Option Addr) (c0_3 : Nat) (l0_3 : List (S35)) (r : Int) (w : World) (hr0_2 : Kd.C Kd.string w A0_2 l0_2.length l0_2) (hc0_2 : l0_2.length ≤ c0_2) (hr0_3 : Kd.C k35 w A0_3 l0_3.length l0_3) (hc0_3 : l0_3.length ≤ c0_3) (h : registrarref04_MayG.f a0_0 a0_1 l0_2 l0_3 = some r) :
    Calls Try.prog 25 #[.agg #[.string a0_0, .string a0_1, .slice A0_2 l0_2.length c0_2, .slice A0_3 l0_3.length c0_3]] w fun e w' => e = .returned (.int .i64 r) ∧ Below w.heap.size w w' := by
  obtain ⟨k, hk⟩ := registrarref04_MayG.val h
  exact registrarref04_May.calls k a0_0 a0_1 A0_2 c0_2 l0_2 A0_3 c0_3 l0_3 r w hr0_2 hc0_2 hr0_3 hc0_3 hk

def eqF (x y : S35) : Bool := eqS x.f0 y.f0 && (x.f1 == y.f1)
theorem eqF_iff (x y : S35) : eqF x y = true ↔ x = y := by
  unfold eqF
  rw [Bool.and_eq_true, eqS_iff, beq_iff_eq]
  cases x; cases y; simp
def eqEv (s t : ByteArray) (a : List ByteArray) (f : List S35) (s' t' : ByteArray) (a' : List ByteArray) (f' : List S35) : Bool := eqS s s' && eqS t t' && eqL eqS a a' && eqL eqF f f'
theorem eqEv_iff {s t : ByteArray} {a : List ByteArray} {f : List S35} {s' t' : ByteArray} {a' : List ByteArray} {f' : List S35} : eqEv s t a f s' t' a' f' = true ↔ s = s' ∧ t = t' ∧ a = a' ∧ f = f' := by
  unfold eqEv
  simp only [Bool.and_eq_true, eqS_iff, eqL_iff eqS_iff, eqL_iff eqF_iff, and_assoc]
theorem same_loop (s t s' t' : ByteArray) (a a' : List ByteArray) (f f' : List S35) (hl : f.length ≤ 9223372036854775807) (hff : f.length = f'.length) : ∀ (n i k : Nat), i + n = f.length → n < k → registrarref04_Same.l0 k (i : Int) s t a f s' t' a' f' = some (eqL eqF (f.drop i) (f'.drop i)) := by
  intro n
  induction n with
  | zero =>
    intro i k hi hk
    obtain ⟨k, rfl⟩ : ∃ m, k = m + 1 := ⟨k - 1, by omega⟩
    rw [registrarref04_Same.l0, if_neg (by omega), List.drop_eq_nil_of_le (by omega), List.drop_eq_nil_of_le (by omega)]; rfl
  | succ n ih =>
    intro i k hi hk
    obtain ⟨k, rfl⟩ : ∃ m, k = m + 1 := ⟨k - 1, by omega⟩
    rw [registrarref04_Same.l0, if_pos (by omega), if_pos (by omega), if_pos (by omega), drop_rdF f i (by omega), drop_rdF f' i (by omega), eqL, succW i (by omega), ih (i + 1) k (by omega) (by omega)]
    unfold eqF eqS
    cases ((rd_T35 f (i : Int)).f0.toList == (rd_T35 f' (i : Int)).f0.toList) <;> cases ((rd_T35 f (i : Int)).f1 == (rd_T35 f' (i : Int)).f1) <;> rfl
def registrarref04_SameG.f (a0_0 : ByteArray) (a0_1 : ByteArray) (l0_2 : List ByteArray) (l0_3 : List (S35)) (a1_0 : ByteArray) (a1_1 : ByteArray) (l1_2 : List ByteArray) (l1_3 : List (S35)) : Option (Bool) :=
  if l0_2.length ≤ 9223372036854775807 ∧ l0_3.length ≤ 9223372036854775807 then some (eqEv a0_0 a0_1 l0_2 l0_3 a1_0 a1_1 l1_2 l1_3) else none
theorem registrarref04_SameG.val {a0_0 a0_1 : ByteArray} {l0_2 : List ByteArray} {l0_3 : List (S35)} {a1_0 a1_1 : ByteArray} {l1_2 : List ByteArray} {l1_3 : List (S35)} {r : Bool} (h : registrarref04_SameG.f a0_0 a0_1 l0_2 l0_3 a1_0 a1_1 l1_2 l1_3 = some r) : ∃ k, registrarref04_Same.f k a0_0 a0_1 l0_2 l0_3 a1_0 a1_1 l1_2 l1_3 = some r := by
  unfold registrarref04_SameG.f at h
  by_cases hc : l0_2.length ≤ 9223372036854775807 ∧ l0_3.length ≤ 9223372036854775807
  · rw [if_pos hc] at h
    obtain rfl := Option.some.inj h
    have m1 : registrarref04_TextsG.f l0_2 l1_2 = some (eqL eqS l0_2 l1_2) := if_pos hc.1
    have j0t : ∀ k, registrarref04_Same.j0 (k + 1) true a0_0 a0_1 l0_2 l0_3 a1_0 a1_1 l1_2 l1_3 = some false := fun k => by rw [registrarref04_Same.j0, if_pos rfl]
    refine ⟨l0_3.length + 3, ?_⟩
    unfold registrarref04_Same.f
    rw [m1]
    simp only [Option.bind_some]
    have e1 : eqS a0_0 a1_0 = decide (a0_0.toList = a1_0.toList) := by unfold eqS; rw [Bool.eq_iff_iff, beq_iff_eq, decide_eq_true_iff]
    have e2 : eqS a0_1 a1_1 = decide (a0_1.toList = a1_1.toList) := by unfold eqS; rw [Bool.eq_iff_iff, beq_iff_eq, decide_eq_true_iff]
    unfold eqEv
    rw [e1, e2]
    by_cases g1 : a0_0.toList = a1_0.toList
    · rw [if_pos g1, decide_eq_true g1]
      by_cases g2 : a0_1.toList = a1_1.toList
      · rw [if_pos g2, decide_eq_true g2]
        cases eqL eqS l0_2 l1_2 with
        | false => rw [if_neg (by decide), j0t]; rfl
        | true =>
          rw [if_pos rfl, registrarref04_Same.j0]
          by_cases g3 : l0_3.length = l1_3.length
          · rw [if_neg (by rw [bne_iff_ne]; omega)]
            have := same_loop a0_0 a0_1 a1_0 a1_1 l0_2 l1_2 l0_3 l1_3 hc.2 g3 l0_3.length 0 (l0_3.length + 2) (by omega) (by omega)
            rw [List.drop_zero, List.drop_zero] at this
            exact this
          · rw [if_pos (by rw [bne_iff_ne]; omega), eqL_len _ _ g3]; rfl
      · rw [if_neg g2, decide_eq_false g2, j0t, Bool.and_false]; rfl
    · rw [if_neg g1, decide_eq_false g1, j0t]; rfl
  · rw [if_neg hc] at h; cases h
theorem registrarref04_SameG.calls (a0_0 : ByteArray) (a0_1 : ByteArray) (A0_2 : Option Addr) (c0_2 : Nat) (l0_2 : List ByteArray) (A0_3 : Option Addr) (c0_3 : Nat) (l0_3 : List (S35)) (a1_0 : ByteArray) (a1_1 : ByteArray) (A1_2 : Option Addr) (c1_2 : Nat) (l1_2 : List ByteArray) (A1_3 : Option Addr) (c1_3 : Nat) (l1_3 : List (S35)) (r : Bool) (w : World) (hr0_2 : Kd.C Kd.string w A0_2 l0_2.length l0_2) (hc0_2 : l0_2.length ≤ c0_2) (hr0_3 : Kd.C k35 w A0_3 l0_3.length l0_3) (hc0_3 : l0_3.length ≤ c0_3) (hr1_2 : Kd.C Kd.string w A1_2 l1_2.length l1_2) (hc1_2 : l1_2.length ≤ c1_2) (hr1_3 : Kd.C k35 w A1_3 l1_3.length l1_3) (hc1_3 : l1_3.length ≤ c1_3) (h : registrarref04_SameG.f a0_0 a0_1 l0_2 l0_3 a1_0 a1_1 l1_2 l1_3 = some r) :
    Calls Try.prog 13 #[.agg #[.string a0_0, .string a0_1, .slice A0_2 l0_2.length c0_2, .slice A0_3 l0_3.length c0_3], .agg #[.string a1_0, .string a1_1, .slice A1_2 l1_2.length c1_2, .slice A1_3 l1_3.length c1_3]] w fun e w' => e = .returned (.bool r) ∧ Below w.heap.size w w' := by
  obtain ⟨k, hk⟩ := registrarref04_SameG.val h
  exact registrarref04_Same.calls k a0_0 a0_1 A0_2 c0_2 l0_2 A0_3 c0_3 l0_3 a1_0 a1_1 A1_2 c1_2 l1_2 A1_3 c1_3 l1_3 r w hr0_2 hc0_2 hr0_3 hc0_3 hr1_2 hc1_2 hr1_3 hc1_3 hk
end Go.Proofs.Ytmnidohgnnpeiaa.Prt
namespace Go.Proofs.Ytmnidohgnnpeiaa.Prt
open Go.RowKit Go.Proofs.YtmnidohgnnpeiaaW.PrintWords Go.Proofs.YtmnidohgnnpeiaaW.PrintLast Go.Proofs.YtmnidohgnnpeiaaW.PrintMore Go.Proofs.Ytmnidohgnnpeiaa.Num
set_option linter.unusedVariables false
set_option linter.unusedSimpArgs false

def num_Put.f (l0 : List Int) (a1 : Int) : Option (List Int) := if l0.length ≤ 140737488350000 ∧ -9223372036854775808 ≤ a1 ∧ a1 ≤ 9223372036854775807 then some (l0 ++ enc a1) else none
theorem num_Put.calls (A0 : Option Addr) (c0 : Nat) (l0 : List Int) (a1 : Int) (r : List Int) (w : World) (hr0 : Kd.C (Kd.int .u8) w A0 l0.length l0) (hc0 : l0.length ≤ c0) (h : num_Put.f l0 a1 = some r) :
    Calls Try.prog 24 #[.slice A0 l0.length c0, .int .i64 a1] w fun e w' => ∃ v0_ : Value, e = .returned (v0_) ∧ Kd.R (Kd.int .u8) 5 w' w.heap.size (fun _ => True) v0_ r ∧ Below w.heap.size w w' := by
  unfold num_Put.f at h
  by_cases hc : l0.length ≤ 140737488350000 ∧ -9223372036854775808 ≤ a1 ∧ a1 ≤ 9223372036854775807
  · rw [if_pos hc] at h
    obtain rfl := Option.some.inj h
    exact put_calls A0 c0 l0 a1 w hr0 hc0 hc.2.1 hc.2.2 hc.1
  · rw [if_neg hc] at h; cases h
def num_PutText.f (l0 : List Int) (a1 : ByteArray) : Option (List Int) := if l0.length + a1.size ≤ 140737488349000 then some (l0 ++ encT (bytesOf a1)) else none
theorem num_PutText.calls (A0 : Option Addr) (c0 : Nat) (l0 : List Int) (a1 : ByteArray) (r : List Int) (w : World) (hr0 : Kd.C (Kd.int .u8) w A0 l0.length l0) (hc0 : l0.length ≤ c0) (h : num_PutText.f l0 a1 = some r) :
    Calls Try.prog 23 #[.slice A0 l0.length c0, .string a1] w fun e w' => ∃ v0_ : Value, e = .returned (v0_) ∧ Kd.R (Kd.int .u8) 5 w' w.heap.size (fun _ => True) v0_ r ∧ Below w.heap.size w w' := by
  unfold num_PutText.f at h
  by_cases hc : l0.length + a1.size ≤ 140737488349000
  · rw [if_pos hc] at h
    obtain rfl := Option.some.inj h
    exact putText_calls A0 c0 l0 a1 w hr0 hc0 hc
  · rw [if_neg hc] at h; cases h
end Go.Proofs.Ytmnidohgnnpeiaa.Prt
namespace Go.Proofs.Ytmnidohgnnpeiaa.Prt
open Go.RowKit Go.Proofs.YtmnidohgnnpeiaaW.PrintWords Go.Proofs.YtmnidohgnnpeiaaW.PrintLast Go.Proofs.YtmnidohgnnpeiaaW.PrintMore
attribute [local go_sem] max2_int min2_int max_two min_two max_three min_three max_four min_four   -- for this text's walks alone
set_option linter.unusedVariables false
set_option linter.unusedSimpArgs false

mutual
def evcode_Put.l0 : Nat → List Int → List ByteArray → Int → Int → ByteArray → ByteArray → List ByteArray → List (S35) → Option (List Int × Int)
  | 0, _, _, _, _, _, _, _, _ => none
  | k + 1, x7, x30, x31, x32, x110000, x110001, x110002, x110003 => if x32 < x31 then (if 0 ≤ x32 then (if x32 < (x30.length : Int) then ((num_PutText.f x7 (rdOf ByteArray.empty x30 x32)).bind fun t121 => (evcode_Put.l0 k t121 x30 x31 (wrap64 (x32 + 1)) x110000 x110001 x110002 x110003)) else (none)) else (none)) else ((num_Put.f x7 (x110003.length : Int)).bind fun t124 => (evcode_Put.l1 k t124 x110003 (x110003.length : Int) 0))
def evcode_Put.l1 : Nat → List Int → List (S35) → Int → Int → Option (List Int × Int)
  | 0, _, _, _, _ => none
  | k + 1, x7, x46, x47, x48 => if x48 < x47 then (if 0 ≤ x48 then (if x48 < (x46.length : Int) then ((num_PutText.f x7 ((rd_T35 x46 x48).f0)).bind fun t129 => ((num_Put.f t129 ((rd_T35 x46 x48).f1)).bind fun t132 => (evcode_Put.l1 k t132 x46 x47 (wrap64 (x48 + 1))))) else (none)) else (none)) else (some (x7, 0))
end
def evcode_Put.f (k : Nat) (l0 : List Int) (a1_0 : ByteArray) (a1_1 : ByteArray) (l1_2 : List ByteArray) (l1_3 : List (S35)) : Option (List Int × Int) := (event_May.f a1_0 a1_1 l1_2 l1_3).bind fun t110 => (if t110 = 0 then ((num_PutText.f l0 a1_0).bind fun t111 => ((num_PutText.f t111 a1_1).bind fun t114 => ((num_Put.f t114 (l1_2.length : Int)).bind fun t117 => (evcode_Put.l0 k t117 l1_2 (l1_2.length : Int) 0 a1_0 a1_1 l1_2 l1_3)))) else (some (([] : List Int), t110)))
def evcode_Put.T4 : Bool × List (List Nat × List Nat) := (true, [([], []), ([], []), ([1], [1]), ([0, 2], [0, 2]), ([], []), ([4], [4]), ([3, 5, 3], [3, 5]), ([6, 6, 0, 1, 2, 3, 4, 5, 6], [6])])
def evcode_Put.B4 : List Nat := [0, 0, 2, 7, 0, 16, 63, 127]
theorem evcode_Put.tab4 : rtab .any (opsOf Try.f10 4) = evcode_Put.T4 := by kernel_rfl
theorem evcode_Put.bits4 : waitsOk evcode_Put.T4.2 evcode_Put.B4 = true := by kernel_rfl
def evcode_Put.T15 : Bool × List (List Nat × List Nat) := (true, [([], []), ([], []), ([1], [1]), ([0, 2], [0, 2]), ([], []), ([4], [4]), ([3, 5, 3], [3, 5]), ([6, 6, 0, 1, 2, 3, 4, 5, 6], [0, 6])])
def evcode_Put.B15 : List Nat := [0, 0, 2, 7, 0, 16, 63, 127]
theorem evcode_Put.tab15 : rtab .any (opsOf Try.f10 15) = evcode_Put.T15 := by kernel_rfl
theorem evcode_Put.bits15 : waitsOk evcode_Put.T15.2 evcode_Put.B15 = true := by kernel_rfl
set_option maxHeartbeats 8000000 in
set_option maxRecDepth 100000 in
theorem evcode_Put.calls (k : Nat) (A0 : Option Addr) (c0 : Nat) (l0 : List Int) (a1_0 : ByteArray) (a1_1 : ByteArray) (A1_2 : Option Addr) (c1_2 : Nat) (l1_2 : List ByteArray) (A1_3 : Option Addr) (c1_3 : Nat) (l1_3 : List (S35)) (r1 : List Int) (r2 : Int) (w : World) (hr0 : Kd.C (Kd.int .u8) w A0 l0.length l0) (hc0 : l0.length ≤ c0) (hr1_2 : Kd.C Kd.string w A1_2 l1_2.length l1_2) (hc1_2 : l1_2.length ≤ c1_2) (hr1_3 : Kd.C k35 w A1_3 l1_3.length l1_3) (hc1_3 : l1_3.length ≤ c1_3) (h : evcode_Put.f k l0 a1_0 a1_1 l1_2 l1_3 = some (r1, r2)) :
    Calls Try.prog 10 #[.slice A0 l0.length c0, .agg #[.string a1_0, .string a1_1, .slice A1_2 l1_2.length c1_2, .slice A1_3 l1_3.length c1_3]] w fun e w' => ∃ v0_ : Value, e = .returned (.tuple #[v0_, .int .i64 r2]) ∧ Kd.R (Kd.int .u8) 5 w' w.heap.size (fun _ => True) v0_ r1 ∧ Below w.heap.size w w' := by
  have hu26 := Try.underlying26
  have hu35 := Try.underlying35
  have HR0 := Aside0.mk hr0
  have HC0 := Aside0.mk hc0
  clear hr0 hc0
  have HR1_2 := Aside0.mk hr1_2
  have HC1_2 := Aside0.mk hc1_2
  clear hr1_2 hc1_2
  have HR1_3 := Aside0.mk hr1_3
  have HC1_3 := Aside0.mk hc1_3
  clear hr1_3 hc1_3
  have HB := Aside0.mk (Below.refl w.heap.size w)
  have H : ((event_May.f a1_0 a1_1 l1_2 l1_3).bind fun t110 => (if t110 = 0 then ((num_PutText.f l0 a1_0).bind fun t111 => ((num_PutText.f t111 a1_1).bind fun t114 => ((num_Put.f t114 (l1_2.length : Int)).bind fun t117 => (evcode_Put.l0 k t117 l1_2 (l1_2.length : Int) 0 a1_0 a1_1 l1_2 l1_3)))) else (some (([] : List Int), t110)))) = some (r1, r2) := h
  clear h
  replace H := Option.bind_eq_some_iff.mp H
  obtain ⟨t110, A30, H⟩ := H
  replace H : (if t110 = 0 then ((num_PutText.f l0 a1_0).bind fun t111 => ((num_PutText.f t111 a1_1).bind fun t114 => ((num_Put.f t114 (l1_2.length : Int)).bind fun t117 => (evcode_Put.l0 k t117 l1_2 (l1_2.length : Int) 0 a1_0 a1_1 l1_2 l1_3)))) else (some (([] : List Int), t110))) = some (r1, r2) := H
  have A3 := Aside0.mk A30
  clear A30
  by_cases c4 : t110 = 0
  · rw [if_pos c4] at H
    have c4b0 : (t110 == 0) = true := beq_iff_eq.mpr c4
    have c4b1 : (t110 != 0) = false := bne_eq_false_iff_eq.mpr c4
    clear c4
    replace H := Option.bind_eq_some_iff.mp H
    obtain ⟨t111, A50, H⟩ := H
    replace H : ((num_PutText.f t111 a1_1).bind fun t114 => ((num_Put.f t114 (l1_2.length : Int)).bind fun t117 => (evcode_Put.l0 k t117 l1_2 (l1_2.length : Int) 0 a1_0 a1_1 l1_2 l1_3))) = some (r1, r2) := H
    have A5 := Aside0.mk A50
    clear A50
    replace H := Option.bind_eq_some_iff.mp H
    obtain ⟨t114, A60, H⟩ := H
    replace H : ((num_Put.f t114 (l1_2.length : Int)).bind fun t117 => (evcode_Put.l0 k t117 l1_2 (l1_2.length : Int) 0 a1_0 a1_1 l1_2 l1_3)) = some (r1, r2) := H
    have A6 := Aside0.mk A60
    clear A60
    replace H := Option.bind_eq_some_iff.mp H
    obtain ⟨t117, A70, H⟩ := H
    replace H : (evcode_Put.l0 k t117 l1_2 (l1_2.length : Int) 0 a1_0 a1_1 l1_2 l1_3) = some (r1, r2) := H
    have A7 := Aside0.mk A70
    clear A70
    have H' := Aside0.mk H
    clear H
    go_enter Try.func10, Try.ntmps10
    try go_wp2_with (first | ((with_reducible refine gate_dst (N := 3) rfl ?_); refine box_event ?hg (N := 3) ?hd (cs := #[.string a1_0, .string a1_1, .slice A1_2 l1_2.length c1_2, .slice A1_3 l1_3.length c1_3]) (t := 26) ?hr ?_; (case hd => rfl); (case hg => rfl); (case hr => first | (go_simp; done) | (go_simp; rfl)); intro gb109 hg w8 hbox hb; have n0_ := Aside0.mk (below_step (by repeat (first | (with_reducible first | exact HB.out | apply below_alloc | apply pw_below_drewN | apply below_drew1) | exact HB.out)) hb); have n1_ := Aside0.mk (hbox); have n2_ := Aside0.mk ((by rw [hg]; exact (below_size (by repeat (first | (with_reducible first | exact HB.out | apply below_alloc | apply pw_below_drewN | apply below_drew1) | exact HB.out))) : w.heap.size ≤ gb109)); have n3_ := Aside0.mk ((by rw [hg]; exact (below_size (by repeat (first | (with_reducible first | exact HB.out | apply below_alloc | apply pw_below_drewN | apply below_drew1) | exact HB.out))) : w.heap.size ≤ gb109)); clear HB; have HB := n0_; have BK109 := n1_; have GW109 := n2_; have GE109 := n3_; clear n0_ n1_ n2_ n3_; clear hb hbox hg; have hcz9_0 : w8.cell? ⟨gb109, 0, none⟩ = some (.string a1_0) := (blk_cell BK109.out 0).trans rfl; have hcz9_1 : w8.cell? ⟨gb109, 1, none⟩ = some (.string a1_1) := (blk_cell BK109.out 1).trans rfl; have hcz9_2 : w8.cell? ⟨gb109, 2, none⟩ = some (.slice A1_2 l1_2.length c1_2) := (blk_cell BK109.out 2).trans rfl; have hcz9_3 : w8.cell? ⟨gb109, 3, none⟩ = some (.slice A1_3 l1_3.length c1_3) := (blk_cell BK109.out 3).trans rfl; have hfz9_0 := blk_frozen BK109.out 0; have hfz9_1 := blk_frozen BK109.out 1; have hfz9_2 := blk_frozen BK109.out 2; have hfz9_3 := blk_frozen BK109.out 3) | ((with_reducible refine gate_callee (f := 22) rfl ?_); refine goesL_ (some 13) rfl rfl Try.func22 (by kernel_rfl) rfl #[.agg #[.string a1_0, .string a1_1, .slice A1_2 l1_2.length c1_2, .slice A1_3 l1_3.length c1_3]] rfl (by (try simp only [List.map_toArray, List.map_cons, List.map_nil]); first | done | rfl | (simp only [List.length_drop, List.length_take]; rfl)) ?_; (with_reducible refine (event_May.calls a1_0 a1_1 _ _ l1_2 _ _ l1_3 t110 _ ?side1 ?side2 ?side3 ?side4 A3.out).mono ?_); (case side1 => repeat (first | exact (Kd.C_below HR1_2.out HB.out) | (with_reducible refine Kd.C_alloc ?_ _) | (with_reducible refine Kd.C_drewN ?_ _) | (with_reducible refine Kd.C_drew ?_))); (case side2 => exact HC1_2.out); (case side3 => repeat (first | exact (Kd.C_below HR1_3.out HB.out) | (with_reducible refine Kd.C_alloc ?_ _) | (with_reducible refine Kd.C_drewN ?_ _) | (with_reducible refine Kd.C_drew ?_))); (case side4 => exact HC1_3.out); rintro e w10 ⟨rfl, hb⟩; refine ⟨_, rfl, ?_⟩; have n0_ := Aside0.mk (blk_below (g := gb109) (o := .cells #[.string a1_0, .string a1_1, .slice A1_2 l1_2.length c1_2, .slice A1_3 l1_3.length c1_3] 26 (0, 0)) (by (with_reducible repeat (first | refine blk_drewN ?_ _ | refine blk_drew ?_ | refine blk_alloc ?_ _)); exact BK109.out) hb); have n1_ := Aside0.mk (below_step (by repeat (first | (with_reducible first | exact HB.out | apply below_alloc | apply pw_below_drewN | apply below_drew1 | refine below_set ?_ GE109.out) | exact HB.out)) hb); clear BK109; clear HB; have BK109 := n0_; have HB := n1_; clear n0_ n1_; (try clear hb); (try clear hb2); (try clear hk); (try clear hi)))
    have n0_ := Aside0.mk (blk_drew BK109.out)
    have n1_ := Aside0.mk (below_drew1 HB.out)
    clear BK109
    clear HB
    have BK109 := n0_
    have HB := n1_
    clear n0_ n1_
    refine start_ (n := 8) (S := fun w' => w'.cell? ⟨gb109, 0, none⟩ = some (.string a1_0) ∧ w'.cell? ⟨gb109, 1, none⟩ = some (.string a1_1) ∧ w'.cell? ⟨gb109, 2, none⟩ = some (.slice A1_2 l1_2.length c1_2) ∧ w'.cell? ⟨gb109, 3, none⟩ = some (.slice A1_3 l1_3.length c1_3)) (ds := []) #[false, false, false, false, false, false, false, false] (by kernel_rfl) rfl rfl ⟨(blk_cell BK109.out 0).trans rfl, (blk_cell BK109.out 1).trans rfl, (blk_cell BK109.out 2).trans rfl, (blk_cell BK109.out 3).trans rfl⟩ (fun hHeld => ?_); refine with_tabW evcode_Put.tab4 evcode_Put.bits4 (fun HT_ HW_ => ?_)
    generalize w10.drew = w11 at BK109 HB hHeld ⊢
    refine pure_ (i := 0) (N := some 17) (v := ?_) (a' := ?_) #[true, false, false, false, false, false, false, false] rfl rfl (any_of HT_.out (by kernel_rfl)) (fun _ _ _ h => h) (Or.inl ⟨by rfl, ?_⟩) ?_ ?_
    rotate_left
    · intro w'
      go_simp
      with_reducible rfl
    rotate_left
    · simp only [Act.put, List.setIfInBounds_toArray, List.set_cons_zero, List.set_cons_succ, i64_w, i32_w]
      rfl
    refine pure_ (i := 1) (N := some 18) (v := ?_) (a' := ?_) #[true, true, false, false, false, false, false, false] rfl rfl (any_of HT_.out (by kernel_rfl)) (fun _ _ _ h => h) (Or.inl ⟨by rfl, ?_⟩) ?_ ?_
    rotate_left
    · intro w'
      go_simp
      with_reducible rfl
    rotate_left
    · simp only [Act.put, List.setIfInBounds_toArray, List.set_cons_zero, List.set_cons_succ, i64_w, i32_w]
      rfl
    refine pure_ (i := 4) (N := some 21) (v := ?_) (a' := ?_) #[true, true, false, false, true, false, false, false] rfl rfl (any_of HT_.out (by kernel_rfl)) (fun _ _ _ h => h) (Or.inl ⟨by rfl, ?_⟩) ?_ ?_
    rotate_left
    · intro w'
      go_simp
      with_reducible rfl
    rotate_left
    · simp only [Act.put, List.setIfInBounds_toArray, List.set_cons_zero, List.set_cons_succ, i64_w, i32_w]
      rfl
    refine take_ (i := 2) (N := some 19) (v := ?_) (a' := ?_) #[true, true, true, false, true, false, false, false] rfl rfl (take_ofW HT_.out HW_.out (by kernel_rfl)) (fun _ _ _ h => h) (Or.inl ⟨by rfl, ?_⟩) hHeld ?_ ?_
    rotate_left
    · rintro w' ⟨s0, s1, s2, s3⟩
      go_simp
      with_reducible rfl
    rotate_left
    · simp only [Act.put, List.setIfInBounds_toArray, List.set_cons_zero, List.set_cons_succ, i64_w, i32_w]
      rfl
    refine take_ (i := 5) (N := some 22) (v := ?_) (a' := ?_) #[true, true, true, false, true, true, false, false] rfl rfl (take_ofW HT_.out HW_.out (by kernel_rfl)) (fun _ _ _ h => h) (Or.inl ⟨by rfl, ?_⟩) hHeld ?_ ?_
    rotate_left
    · rintro w' ⟨s0, s1, s2, s3⟩
      go_simp
      with_reducible rfl
    rotate_left
    · simp only [Act.put, List.setIfInBounds_toArray, List.set_cons_zero, List.set_cons_succ, i64_w, i32_w]
      rfl
    refine one_ (i := 3) (N := some 20) #[true, true, true, true, true, true, false, false] rfl rfl (one_of HT_.out (by kernel_rfl)) (by decide) (fun K hK => ?_)
    refine goes_ Try.func23 (by kernel_rfl) rfl #[.slice A0 l0.length c0, .string a1_0] (by rfl) rfl rfl (by (try simp only [List.map_toArray, List.map_cons, List.map_nil]); first | done | rfl | (simp only [List.length_drop, List.length_take]; rfl)) ?_
    with_reducible refine (num_PutText.calls _ _ l0 a1_0 t111 _ ?side1 ?side2 A5.out).mono ?_
    (case side1 => repeat (first | exact (Kd.C_below HR0.out HB.out) | (with_reducible refine Kd.C_alloc ?_ _) | (with_reducible refine Kd.C_drewN ?_ _) | (with_reducible refine Kd.C_drew ?_)))
    (case side2 => exact HC0.out)
    rintro e w12 ⟨v112, rfl, ho0, hb⟩
    refine ⟨_, rfl, ?_⟩
    have n0_ := Aside0.mk (Kd.R_lower ho0 (below_size (by repeat (first | (with_reducible first | exact HB.out | apply below_alloc | apply pw_below_drewN | apply below_drew1 | refine below_set ?_ GE109.out) | exact HB.out))))
    have n1_ := Aside0.mk (blk_below (g := gb109) (o := .cells #[.string a1_0, .string a1_1, .slice A1_2 l1_2.length c1_2, .slice A1_3 l1_3.length c1_3] 26 (0, 0)) (by (with_reducible repeat (first | refine blk_drewN ?_ _ | refine blk_drew ?_ | refine blk_alloc ?_ _)); exact BK109.out) hb)
    have n2_ := Aside0.mk (below_step (by repeat (first | (with_reducible first | exact HB.out | apply below_alloc | apply pw_below_drewN | apply below_drew1 | refine below_set ?_ GE109.out) | exact HB.out)) hb)
    clear BK109
    clear HB
    have HO113 := n0_
    have BK109 := n1_
    have HB := n2_
    clear n0_ n1_ n2_
    (try clear hb)
    (try clear hb2)
    (try clear hk)
    (try clear hi)
    (try clear ho0)
    obtain ⟨Ao13, co13, eo13⟩ := Kd.R_slice HO113.out
    (first | subst eo13 | (injection eo13 with f1_ f2_ f3_; have f4_ := f1_.symm; have f5_ := f3_.symm; clear f1_ f2_ f3_; subst f4_; subst f5_))
    refine hK.out _ _ ⟨(blk_cell BK109.out 0).trans rfl, (blk_cell BK109.out 1).trans rfl, (blk_cell BK109.out 2).trans rfl, (blk_cell BK109.out 3).trans rfl⟩ (fun hHeld => ?_)
    clear hK K
    refine norm_ (a' := ?_) ?_ ?_
    rotate_left
    · show Act.put _ (some 20) _ = _
      simp only [Act.put, List.setIfInBounds_toArray, List.set_cons_zero, List.set_cons_succ, i64_w, i32_w]
      rfl
    refine one_ (i := 6) (N := some 23) #[true, true, true, true, true, true, true, false] rfl rfl (one_of HT_.out (by kernel_rfl)) (by decide) (fun K hK => ?_)
    refine goes_ Try.func23 (by kernel_rfl) rfl #[.slice Ao13 t111.length co13, .string a1_1] (by rfl) rfl rfl (by (try simp only [List.map_toArray, List.map_cons, List.map_nil]); first | done | rfl | (simp only [List.length_drop, List.length_take]; rfl)) ?_
    with_reducible refine (num_PutText.calls _ _ t111 a1_1 t114 _ ?side1 ?side2 A6.out).mono ?_
    (case side1 => repeat (first | exact (Kd.R_reads' HO113.out).2.2 | (with_reducible refine Kd.C_alloc ?_ _) | (with_reducible refine Kd.C_drewN ?_ _) | (with_reducible refine Kd.C_drew ?_)))
    (case side2 => exact (Kd.R_reads' HO113.out).2.1)
    rintro e w14 ⟨v115, rfl, ho0, hb⟩
    refine ⟨_, rfl, ?_⟩
    have n0_ := Aside0.mk (Kd.R_elder' (by (with_reducible repeat (first | apply Kd.R_alloc | apply Kd.R_drewN | apply Kd.R_drew)); exact HO113.out) (Kd.R_base ho0) hb)
    have n1_ := Aside0.mk (Kd.R_lower (Kd.R_new' ho0 (Kd.R_lt (by (with_reducible repeat (first | apply Kd.R_alloc | apply Kd.R_drewN | apply Kd.R_drew)); exact HO113.out))) (below_size (by repeat (first | (with_reducible first | exact HB.out | apply below_alloc | apply pw_below_drewN | apply below_drew1 | refine below_set ?_ GE109.out) | exact HB.out))))
    have n2_ := Aside0.mk (blk_below (g := gb109) (o := .cells #[.string a1_0, .string a1_1, .slice A1_2 l1_2.length c1_2, .slice A1_3 l1_3.length c1_3] 26 (0, 0)) (by (with_reducible repeat (first | refine blk_drewN ?_ _ | refine blk_drew ?_ | refine blk_alloc ?_ _)); exact BK109.out) hb)
    have n3_ := Aside0.mk (below_step (by repeat (first | (with_reducible first | exact HB.out | apply below_alloc | apply pw_below_drewN | apply below_drew1 | refine below_set ?_ GE109.out) | exact HB.out)) hb)
    clear HO113
    clear BK109
    clear HB
    have HO113 := n0_
    have HO116 := n1_
    have BK109 := n2_
    have HB := n3_
    clear n0_ n1_ n2_ n3_
    (try clear hb)
    (try clear hb2)
    (try clear hk)
    (try clear hi)
    (try clear ho0)
    refine hK.out _ _ ⟨(blk_cell BK109.out 0).trans rfl, (blk_cell BK109.out 1).trans rfl, (blk_cell BK109.out 2).trans rfl, (blk_cell BK109.out 3).trans rfl⟩ (fun hHeld => ?_)
    clear hK K
    refine norm_ (a' := ?_) ?_ ?_
    rotate_left
    · show Act.put _ (some 23) _ = _
      simp only [Act.put, List.setIfInBounds_toArray, List.set_cons_zero, List.set_cons_succ, i64_w, i32_w]
      rfl
    refine pure_ (i := 7) (N := some 7) (v := ?_) (a' := ?_) #[true, true, true, true, true, true, true, true] rfl rfl (any_of HT_.out (by kernel_rfl)) (fun _ _ _ h => h) (Or.inl ⟨by rfl, ?_⟩) ?_ ?_
    rotate_left
    · intro w'
      go_simp
      with_reducible rfl
    rotate_left
    · simp only [Act.put, List.setIfInBounds_toArray, List.set_cons_zero, List.set_cons_succ, i64_w, i32_w]
      rfl
    refine done_ (done_of HT_.out (by kernel_rfl)) ?_
    have hcz15_0 : w14.cell? ⟨gb109, 0, none⟩ = some (.string a1_0) := (blk_cell BK109.out 0).trans rfl
    have hcz15_1 : w14.cell? ⟨gb109, 1, none⟩ = some (.string a1_1) := (blk_cell BK109.out 1).trans rfl
    have hcz15_2 : w14.cell? ⟨gb109, 2, none⟩ = some (.slice A1_2 l1_2.length c1_2) := (blk_cell BK109.out 2).trans rfl
    have hcz15_3 : w14.cell? ⟨gb109, 3, none⟩ = some (.slice A1_3 l1_3.length c1_3) := (blk_cell BK109.out 3).trans rfl
    have hfz15_0 := blk_frozen BK109.out 0
    have hfz15_1 := blk_frozen BK109.out 1
    have hfz15_2 := blk_frozen BK109.out 2
    have hfz15_3 := blk_frozen BK109.out 3
    obtain ⟨Ao16, co16, eo16⟩ := Kd.R_slice HO116.out
    subst eo16
    try go_wp2_with (first | ((with_reducible refine gate_callee (f := 24) rfl ?_); refine goesL_ (some 28) rfl rfl Try.func24 (by kernel_rfl) rfl #[.slice Ao16 t114.length co16, .int .i64 (l1_2.length : Int)] rfl (by (try simp only [List.map_toArray, List.map_cons, List.map_nil]); first | done | rfl | (simp only [List.length_drop, List.length_take]; rfl)) ?_; (with_reducible refine (num_Put.calls _ _ t114 (l1_2.length : Int) t117 _ ?side1 ?side2 A7.out).mono ?_); (case side1 => repeat (first | exact (Kd.R_reads' HO116.out).2.2 | (with_reducible refine Kd.C_alloc ?_ _) | (with_reducible refine Kd.C_drewN ?_ _) | (with_reducible refine Kd.C_drew ?_))); (case side2 => exact (Kd.R_reads' HO116.out).2.1); rintro e w17 ⟨v118, rfl, ho0, hb⟩; refine ⟨_, rfl, ?_⟩; have n0_ := Aside0.mk (Kd.R_elder' (by (with_reducible repeat (first | apply Kd.R_alloc | apply Kd.R_drewN | apply Kd.R_drew)); exact HO113.out) (Kd.R_base ho0) hb); have n1_ := Aside0.mk (Kd.R_elder' (by (with_reducible repeat (first | apply Kd.R_alloc | apply Kd.R_drewN | apply Kd.R_drew)); exact HO116.out) (Kd.R_base ho0) hb); have n2_ := Aside0.mk (Kd.R_lower (Kd.R_new' (Kd.R_new' ho0 (Kd.R_lt (by (with_reducible repeat (first | apply Kd.R_alloc | apply Kd.R_drewN | apply Kd.R_drew)); exact HO113.out))) (Kd.R_lt (by (with_reducible repeat (first | apply Kd.R_alloc | apply Kd.R_drewN | apply Kd.R_drew)); exact HO116.out))) (below_size (by repeat (first | (with_reducible first | exact HB.out | apply below_alloc | apply pw_below_drewN | apply below_drew1 | refine below_set ?_ GE109.out) | exact HB.out)))); have n3_ := Aside0.mk (blk_below (g := gb109) (o := .cells #[.string a1_0, .string a1_1, .slice A1_2 l1_2.length c1_2, .slice A1_3 l1_3.length c1_3] 26 (0, 0)) (by (with_reducible repeat (first | refine blk_drewN ?_ _ | refine blk_drew ?_ | refine blk_alloc ?_ _)); exact BK109.out) hb); have n4_ := Aside0.mk (below_step (by repeat (first | (with_reducible first | exact HB.out | apply below_alloc | apply pw_below_drewN | apply below_drew1 | refine below_set ?_ GE109.out) | exact HB.out)) hb); clear HO113; clear HO116; clear BK109; clear HB; have HO113 := n0_; have HO116 := n1_; have HO119 := n2_; have BK109 := n3_; have HB := n4_; clear n0_ n1_ n2_ n3_ n4_; (try clear hb); (try clear hb2); (try clear hk); (try clear hi); (try clear ho0); have hcz18_0 : w17.cell? ⟨gb109, 0, none⟩ = some (.string a1_0) := (blk_cell BK109.out 0).trans rfl; have hcz18_1 : w17.cell? ⟨gb109, 1, none⟩ = some (.string a1_1) := (blk_cell BK109.out 1).trans rfl; have hcz18_2 : w17.cell? ⟨gb109, 2, none⟩ = some (.slice A1_2 l1_2.length c1_2) := (blk_cell BK109.out 2).trans rfl; have hcz18_3 : w17.cell? ⟨gb109, 3, none⟩ = some (.slice A1_3 l1_3.length c1_3) := (blk_cell BK109.out 3).trans rfl; have hfz18_0 := blk_frozen BK109.out 0; have hfz18_1 := blk_frozen BK109.out 1; have hfz18_2 := blk_frozen BK109.out 2; have hfz18_3 := blk_frozen BK109.out 3))
    go_loopg [7, 32] k (fun kq v7 v32 w' => ∃ (x7_1 : List Int) (x32_1 : Int), v32 = .int .i64 x32_1 ∧ Aside0 (evcode_Put.l0 kq x7_1 l1_2 (l1_2.length : Int) x32_1 a1_0 a1_1 l1_2 l1_3 = some (r1, r2)) ∧ Aside0 (kq ≤ k) ∧ Aside0 (Kd.R (Kd.int .u8) 5 w' w.heap.size (fun _ => True) v7 x7_1) ∧ Aside0 (w'.heap[gb109]? = some (.cells #[.string a1_0, .string a1_1, (.slice A1_2 l1_2.length c1_2), (.slice A1_3 l1_3.length c1_3)] 26 (0, 0))) ∧ Aside0 (Below w.heap.size w w'))
    case atStart => exact ⟨(t117), (0), (by first | rfl | (simp; done) | (simp [*]; done)), H', ⟨Nat.le_refl _⟩, ⟨by (with_reducible repeat (first | apply Kd.R_alloc | apply Kd.R_drewN | apply Kd.R_drew)); exact Kd.R_mono HO119.out (fun _ hk => trivial)⟩, ⟨by (with_reducible repeat (first | refine blk_drewN ?_ _ | refine blk_drew ?_ | refine blk_alloc ?_ _)); exact BK109.out⟩, ⟨by repeat (first | (with_reducible first | exact HB.out | apply below_alloc | apply pw_below_drewN | apply below_drew1 | refine below_set ?_ GE109.out) | exact HB.out)⟩⟩
    case round =>
      clear H'
      try clear c1
      try clear c2
      try clear p2
      try clear c4
      try clear c4b0
      try clear c4b1
      try clear c10
      try clear hcz15_0
      try clear hcz15_1
      try clear hcz15_2
      try clear hcz15_3
      try clear hcz18_0
      try clear hcz18_1
      try clear hcz18_2
      try clear hcz18_3
      try clear hcz9_0
      try clear hcz9_1
      try clear hcz9_2
      try clear hcz9_3
      try clear hfz15_0
      try clear hfz15_1
      try clear hfz15_2
      try clear hfz15_3
      try clear hfz18_0
      try clear hfz18_1
      try clear hfz18_2
      try clear hfz18_3
      try clear hfz9_0
      try clear hfz9_1
      try clear hfz9_2
      try clear hfz9_3
      obtain ⟨x7_1, x32_1, rfl, HA, HK1, HO_7, BK109, HB⟩ := hrel
      cases gk with
      | zero => exact absurd HA.out (by simp [evcode_Put.l0])
      | succ k1 =>
        have H := HA.out
        clear HA
        simp only [evcode_Put.l0] at H
        by_cases c19 : x32_1 < (l1_2.length : Int)
        · rw [if_pos c19] at H
          have c19b0 : decide (x32_1 < (l1_2.length : Int)) = true := decide_eq_true c19
          clear c19
          by_cases c20 : 0 ≤ x32_1
          · rw [if_pos c20] at H
            have c20b0 : decide (0 ≤ x32_1) = true := decide_eq_true c20
            clear c20
            by_cases c21 : x32_1 < (l1_2.length : Int)
            · rw [if_pos c21] at H
              have c21b0 : decide (x32_1 < (l1_2.length : Int)) = true := decide_eq_true c21
              clear c21
              replace H := Option.bind_eq_some_iff.mp H
              obtain ⟨t121, A220, H⟩ := H
              replace H : (evcode_Put.l0 k1 t121 l1_2 (l1_2.length : Int) (wrap64 (x32_1 + 1)) a1_0 a1_1 l1_2 l1_3) = some (r1, r2) := H
              have A22 := Aside0.mk A220
              clear A220
              have H' := Aside0.mk H
              clear H
              have p120 : 0 ≤ (x32_1 : Int) := of_decide_eq_true (by first | (with_reducible assumption) | assumption)
              have q120 : x32_1 < (l1_2.length : Int) := of_decide_eq_true (by first | (with_reducible assumption) | assumption)
              obtain ⟨ad120, e120, hx120_0⟩ := Kd.at_string HR1_2.out x32_1 p120 q120
              cases e120
              replace hx120_0 := (HB.out.cell (World.block_lt_of_cell? w _ hx120_0)).trans hx120_0
              replace p120 := eq_true p120
              replace q120 := eq_true q120
              obtain ⟨Ao23, co23, eo23⟩ := Kd.R_slice HO_7.out
              subst eo23
              go_wp2_with (first | ((with_reducible refine gate_callee (f := 23) rfl ?_); refine goesL_ (some 38) rfl rfl Try.func23 (by kernel_rfl) rfl #[.slice Ao23 x7_1.length co23, .string (rdOf ByteArray.empty l1_2 x32_1)] rfl (by (try simp only [List.map_toArray, List.map_cons, List.map_nil]); first | done | rfl | (simp only [List.length_drop, List.length_take]; rfl)) ?_; (with_reducible refine (num_PutText.calls _ _ x7_1 (rdOf ByteArray.empty l1_2 x32_1) t121 _ ?side1 ?side2 A22.out).mono ?_); (case side1 => repeat (first | exact (Kd.R_reads' HO_7.out).2.2 | (with_reducible refine Kd.C_alloc ?_ _) | (with_reducible refine Kd.C_drewN ?_ _) | (with_reducible refine Kd.C_drew ?_))); (case side2 => exact (Kd.R_reads' HO_7.out).2.1); rintro e w24 ⟨v122, rfl, ho0, hb⟩; refine ⟨_, rfl, ?_⟩; have n0_ := Aside0.mk (Kd.R_elder' (by (with_reducible repeat (first | apply Kd.R_alloc | apply Kd.R_drewN | apply Kd.R_drew)); exact HO_7.out) (Kd.R_base ho0) hb); have n1_ := Aside0.mk (Kd.R_lower (Kd.R_new' ho0 (Kd.R_lt (by (with_reducible repeat (first | apply Kd.R_alloc | apply Kd.R_drewN | apply Kd.R_drew)); exact HO_7.out))) (below_size (by repeat (first | (with_reducible first | exact HB.out | apply below_alloc | apply pw_below_drewN | apply below_drew1 | refine below_set ?_ GE109.out) | exact HB.out)))); have n2_ := Aside0.mk (blk_below (g := gb109) (o := .cells #[.string a1_0, .string a1_1, .slice (some ad120) l1_2.length c1_2, .slice A1_3 l1_3.length c1_3] 26 (0, 0)) (by (with_reducible repeat (first | refine blk_drewN ?_ _ | refine blk_drew ?_ | refine blk_alloc ?_ _)); exact BK109.out) hb); have n3_ := Aside0.mk (below_step (by repeat (first | (with_reducible first | exact HB.out | apply below_alloc | apply pw_below_drewN | apply below_drew1 | refine below_set ?_ GE109.out) | exact HB.out)) hb); clear HO_7; clear BK109; clear HB; have HO_7 := n0_; have HO123 := n1_; have BK109 := n2_; have HB := n3_; clear n0_ n1_ n2_ n3_; (try clear hb); (try clear hb2); (try clear hk); (try clear hi); (try clear ho0)))
              go_roundg k1
              case measure => have := HK1.out; omega
              case rel => exact ⟨(t121), (wrap64 (x32_1 + 1)), (by first | rfl | (simp; done) | (simp [*]; done)), H', ⟨by have := HK1.out; omega⟩, ⟨by (with_reducible repeat (first | apply Kd.R_alloc | apply Kd.R_drewN | apply Kd.R_drew)); exact Kd.R_mono HO123.out (fun _ hk => trivial)⟩, ⟨by (with_reducible repeat (first | refine blk_drewN ?_ _ | refine blk_drew ?_ | refine blk_alloc ?_ _)); exact BK109.out⟩, ⟨by repeat (first | (with_reducible first | exact HB.out | apply below_alloc | apply pw_below_drewN | apply below_drew1 | refine below_set ?_ GE109.out) | exact HB.out)⟩⟩
            · rw [if_neg c21] at H
              exact absurd H (by simp)
          · rw [if_neg c20] at H
            exact absurd H (by simp)
        · rw [if_neg c19] at H
          have c19b0 : decide (x32_1 < (l1_2.length : Int)) = false := decide_eq_false c19
          clear c19
          replace H := Option.bind_eq_some_iff.mp H
          obtain ⟨t124, A250, H⟩ := H
          replace H : (evcode_Put.l1 k1 t124 l1_3 (l1_3.length : Int) 0) = some (r1, r2) := H
          have A25 := Aside0.mk A250
          clear A250
          have H' := Aside0.mk H
          clear H
          have hcz26_0 : wr.cell? ⟨gb109, 0, none⟩ = some (.string a1_0) := (blk_cell BK109.out 0).trans rfl
          have hcz26_1 : wr.cell? ⟨gb109, 1, none⟩ = some (.string a1_1) := (blk_cell BK109.out 1).trans rfl
          have hcz26_2 : wr.cell? ⟨gb109, 2, none⟩ = some (.slice A1_2 l1_2.length c1_2) := (blk_cell BK109.out 2).trans rfl
          have hcz26_3 : wr.cell? ⟨gb109, 3, none⟩ = some (.slice A1_3 l1_3.length c1_3) := (blk_cell BK109.out 3).trans rfl
          have hfz26_0 := blk_frozen BK109.out 0
          have hfz26_1 := blk_frozen BK109.out 1
          have hfz26_2 := blk_frozen BK109.out 2
          have hfz26_3 := blk_frozen BK109.out 3
          obtain ⟨Ao27, co27, eo27⟩ := Kd.R_slice HO_7.out
          subst eo27
          go_wp2_with (first | ((with_reducible refine gate_callee (f := 24) rfl ?_); refine goesL_ (some 44) rfl rfl Try.func24 (by kernel_rfl) rfl #[.slice Ao27 x7_1.length co27, .int .i64 (l1_3.length : Int)] rfl (by (try simp only [List.map_toArray, List.map_cons, List.map_nil]); first | done | rfl | (simp only [List.length_drop, List.length_take]; rfl)) ?_; (with_reducible refine (num_Put.calls _ _ x7_1 (l1_3.length : Int) t124 _ ?side1 ?side2 A25.out).mono ?_); (case side1 => repeat (first | exact (Kd.R_reads' HO_7.out).2.2 | (with_reducible refine Kd.C_alloc ?_ _) | (with_reducible refine Kd.C_drewN ?_ _) | (with_reducible refine Kd.C_drew ?_))); (case side2 => exact (Kd.R_reads' HO_7.out).2.1); rintro e w28 ⟨v125, rfl, ho0, hb⟩; refine ⟨_, rfl, ?_⟩; have n0_ := Aside0.mk (Kd.R_elder' (by (with_reducible repeat (first | apply Kd.R_alloc | apply Kd.R_drewN | apply Kd.R_drew)); exact HO_7.out) (Kd.R_base ho0) hb); have n1_ := Aside0.mk (Kd.R_lower (Kd.R_new' ho0 (Kd.R_lt (by (with_reducible repeat (first | apply Kd.R_alloc | apply Kd.R_drewN | apply Kd.R_drew)); exact HO_7.out))) (below_size (by repeat (first | (with_reducible first | exact HB.out | apply below_alloc | apply pw_below_drewN | apply below_drew1 | refine below_set ?_ GE109.out) | exact HB.out)))); have n2_ := Aside0.mk (blk_below (g := gb109) (o := .cells #[.string a1_0, .string a1_1, .slice A1_2 l1_2.length c1_2, .slice A1_3 l1_3.length c1_3] 26 (0, 0)) (by (with_reducible repeat (first | refine blk_drewN ?_ _ | refine blk_drew ?_ | refine blk_alloc ?_ _)); exact BK109.out) hb); have n3_ := Aside0.mk (below_step (by repeat (first | (with_reducible first | exact HB.out | apply below_alloc | apply pw_below_drewN | apply below_drew1 | refine below_set ?_ GE109.out) | exact HB.out)) hb); clear HO_7; clear BK109; clear HB; have HO_7 := n0_; have HO126 := n1_; have BK109 := n2_; have HB := n3_; clear n0_ n1_ n2_ n3_; (try clear hb); (try clear hb2); (try clear hk); (try clear hi); (try clear ho0); have hcz29_0 : w28.cell? ⟨gb109, 0, none⟩ = some (.string a1_0) := (blk_cell BK109.out 0).trans rfl; have hcz29_1 : w28.cell? ⟨gb109, 1, none⟩ = some (.string a1_1) := (blk_cell BK109.out 1).trans rfl; have hcz29_2 : w28.cell? ⟨gb109, 2, none⟩ = some (.slice A1_2 l1_2.length c1_2) := (blk_cell BK109.out 2).trans rfl; have hcz29_3 : w28.cell? ⟨gb109, 3, none⟩ = some (.slice A1_3 l1_3.length c1_3) := (blk_cell BK109.out 3).trans rfl; have hfz29_0 := blk_frozen BK109.out 0; have hfz29_1 := blk_frozen BK109.out 1; have hfz29_2 := blk_frozen BK109.out 2; have hfz29_3 := blk_frozen BK109.out 3))
          go_loopg [7, 48] k1 (fun kq v7 v48 w' => ∃ (x7_2 : List Int) (x48_2 : Int), v48 = .int .i64 x48_2 ∧ Aside0 (evcode_Put.l1 kq x7_2 l1_3 (l1_3.length : Int) x48_2 = some (r1, r2)) ∧ Aside0 (kq ≤ k1) ∧ Aside0 (Kd.R (Kd.int .u8) 5 w' w.heap.size (fun _ => True) v7 x7_2) ∧ Aside0 (w'.heap[gb109]? = some (.cells #[.string a1_0, .string a1_1, (.slice A1_2 l1_2.length c1_2), (.slice A1_3 l1_3.length c1_3)] 26 (0, 0))) ∧ Aside0 (Below w.heap.size w w'))
          case atStart => exact ⟨(t124), (0), (by first | rfl | (simp; done) | (simp [*]; done)), H', ⟨Nat.le_refl _⟩, ⟨by (with_reducible repeat (first | apply Kd.R_alloc | apply Kd.R_drewN | apply Kd.R_drew)); exact Kd.R_mono HO126.out (fun _ hk => trivial)⟩, ⟨by (with_reducible repeat (first | refine blk_drewN ?_ _ | refine blk_drew ?_ | refine blk_alloc ?_ _)); exact BK109.out⟩, ⟨by repeat (first | (with_reducible first | exact HB.out | apply below_alloc | apply pw_below_drewN | apply below_drew1 | refine below_set ?_ GE109.out) | exact HB.out)⟩⟩
          case round =>
            clear H'
            try clear c1
            try clear p1
            try clear q1
            try clear hx1
            try clear c2
            try clear p2
            try clear c4
            try clear c4b0
            try clear c4b1
            try clear p6
            try clear c10
            try clear p12
            try clear q12
            try clear hx12
            try clear c19
            try clear c19b0
            try clear c20
            try clear c20b0
            try clear c21
            try clear c21b0
            try clear c22
            try clear c23
            try clear c24
            try clear hcz15_0
            try clear hcz15_1
            try clear hcz15_2
            try clear hcz15_3
            try clear hcz18_0
            try clear hcz18_1
            try clear hcz18_2
            try clear hcz18_3
            try clear hcz26_0
            try clear hcz26_1
            try clear hcz26_2
            try clear hcz26_3
            try clear hcz29_0
            try clear hcz29_1
            try clear hcz29_2
            try clear hcz29_3
            try clear hcz9_0
            try clear hcz9_1
            try clear hcz9_2
            try clear hcz9_3
            try clear hfz15_0
            try clear hfz15_1
            try clear hfz15_2
            try clear hfz15_3
            try clear hfz18_0
            try clear hfz18_1
            try clear hfz18_2
            try clear hfz18_3
            try clear hfz26_0
            try clear hfz26_1
            try clear hfz26_2
            try clear hfz26_3
            try clear hfz29_0
            try clear hfz29_1
            try clear hfz29_2
            try clear hfz29_3
            try clear hfz9_0
            try clear hfz9_1
            try clear hfz9_2
            try clear hfz9_3
            try clear hx120_0
            try clear p120
            try clear p2
            try clear q120
            obtain ⟨x7_2, x48_2, rfl, HA, HK2, HO_7, BK109, HB⟩ := hrel
            cases gk with
            | zero => exact absurd HA.out (by simp [evcode_Put.l1])
            | succ k2 =>
              have H := HA.out
              clear HA
              simp only [evcode_Put.l1] at H
              by_cases c30 : x48_2 < (l1_3.length : Int)
              · rw [if_pos c30] at H
                have c30b0 : decide (x48_2 < (l1_3.length : Int)) = true := decide_eq_true c30
                clear c30
                by_cases c31 : 0 ≤ x48_2
                · rw [if_pos c31] at H
                  have c31b0 : decide (0 ≤ x48_2) = true := decide_eq_true c31
                  clear c31
                  by_cases c32 : x48_2 < (l1_3.length : Int)
                  · rw [if_pos c32] at H
                    have c32b0 : decide (x48_2 < (l1_3.length : Int)) = true := decide_eq_true c32
                    clear c32
                    replace H := Option.bind_eq_some_iff.mp H
                    obtain ⟨t129, A330, H⟩ := H
                    replace H : ((num_Put.f t129 ((rd_T35 l1_3 x48_2).f1)).bind fun t132 => (evcode_Put.l1 k2 t132 l1_3 (l1_3.length : Int) (wrap64 (x48_2 + 1)))) = some (r1, r2) := H
                    have A33 := Aside0.mk A330
                    clear A330
                    replace H := Option.bind_eq_some_iff.mp H
                    obtain ⟨t132, A340, H⟩ := H
                    replace H : (evcode_Put.l1 k2 t132 l1_3 (l1_3.length : Int) (wrap64 (x48_2 + 1))) = some (r1, r2) := H
                    have A34 := Aside0.mk A340
                    clear A340
                    have H' := Aside0.mk H
                    clear H
                    have p127 : 0 ≤ (x48_2 : Int) := of_decide_eq_true (by first | (with_reducible assumption) | assumption)
                    have q127 : x48_2 < (l1_3.length : Int) := of_decide_eq_true (by first | (with_reducible assumption) | assumption)
                    obtain ⟨ad127, e127, hx127_0, hx127_1⟩ := at_T35 HR1_3.out x48_2 p127 q127
                    cases e127
                    replace hx127_0 := (HB.out.cell (World.block_lt_of_cell? w _ hx127_0)).trans hx127_0
                    replace hx127_1 := (HB.out.cell (World.block_lt_of_cell? w _ hx127_1)).trans hx127_1
                    replace p127 := eq_true p127
                    replace q127 := eq_true q127
                    try go_wp2_with (first | ((with_reducible refine gate_dst (N := 11) rfl ?_); refine box_event ?hg (N := 11) ?hd (cs := #[.string (⟨#[]⟩ : ByteArray), .int .i64 0]) (t := 35) ?hr ?_; (case hd => rfl); (case hg => rfl); (case hr => first | (go_simp; done) | (go_simp; rfl)); intro gb128 hg w35 hbox hb; have n0_ := Aside0.mk (Kd.R_below (by (with_reducible repeat (first | apply Kd.R_alloc | apply Kd.R_drewN | apply Kd.R_drew)); exact HO_7.out) hb); have n1_ := Aside0.mk (blk_below (g := gb109) (o := .cells #[.string a1_0, .string a1_1, .slice A1_2 l1_2.length c1_2, .slice (some ad127) l1_3.length c1_3] 26 (0, 0)) (by (with_reducible repeat (first | refine blk_drewN ?_ _ | refine blk_drew ?_ | refine blk_alloc ?_ _)); exact BK109.out) hb); have n2_ := Aside0.mk (below_step (by repeat (first | (with_reducible first | exact HB.out | apply below_alloc | apply pw_below_drewN | apply below_drew1 | refine below_set ?_ GE109.out) | exact HB.out)) hb); have n3_ := Aside0.mk (hbox); have n4_ := Aside0.mk ((by rw [hg]; exact (below_size (by repeat (first | (with_reducible first | exact HB.out | apply below_alloc | apply pw_below_drewN | apply below_drew1 | refine below_set ?_ GE109.out) | exact HB.out))) : w.heap.size ≤ gb128)); have n5_ := Aside0.mk ((by rw [hg]; exact (below_size (by repeat (first | (with_reducible first | exact HB.out | apply below_alloc | apply pw_below_drewN | apply below_drew1 | refine below_set ?_ GE109.out) | exact HB.out))) : w.heap.size ≤ gb128)); have n6_ := Aside0.mk ((by rw [hg]; exact Nat.ne_of_lt (blk_lt (g := gb109) (o := .cells #[.string a1_0, .string a1_1, .slice A1_2 l1_2.length c1_2, .slice (some ad127) l1_3.length c1_3] 26 (0, 0)) (by (with_reducible repeat (first | refine blk_drewN ?_ _ | refine blk_drew ?_ | refine blk_alloc ?_ _)); exact BK109.out)) : gb109 ≠ gb128)); have n7_ := Aside0.mk ((by rw [hg]; exact Nat.ne_of_gt (blk_lt (g := gb109) (o := .cells #[.string a1_0, .string a1_1, .slice A1_2 l1_2.length c1_2, .slice (some ad127) l1_3.length c1_3] 26 (0, 0)) (by (with_reducible repeat (first | refine blk_drewN ?_ _ | refine blk_drew ?_ | refine blk_alloc ?_ _)); exact BK109.out)) : gb128 ≠ gb109)); clear HO_7; clear BK109; clear HB; have HO_7 := n0_; have BK109 := n1_; have HB := n2_; have BK128 := n3_; have GW128 := n4_; have GE128 := n5_; have NB109_128 := n6_; have NB128_109 := n7_; clear n0_ n1_ n2_ n3_ n4_ n5_ n6_ n7_; clear hb hbox hg; have hnb36 := NB128_109.out; have hnc36 := NB109_128.out; have hcz37_0 : w35.cell? ⟨gb128, 0, none⟩ = some (.string (⟨#[]⟩ : ByteArray)) := (blk_cell BK128.out 0).trans rfl; have hcz37_1 : w35.cell? ⟨gb128, 1, none⟩ = some (.int .i64 0) := (blk_cell BK128.out 1).trans rfl; have hfz37_0 := blk_frozen BK128.out 0; have hfz37_1 := blk_frozen BK128.out 1))
                    have n0_ : Aside0 (Kd.R (Kd.int .u8) 5 ((w35.setCell ⟨gb128, 0, none⟩ (.string ((rd_T35 l1_3 x48_2).f0))).setCell ⟨gb128, 1, none⟩ (.int .i64 ((rd_T35 l1_3 x48_2).f1))) w.heap.size (fun _ => True) u7 x7_2) := ⟨by (with_reducible repeat (first | apply Kd.R_alloc | apply Kd.R_drewN | apply Kd.R_drew)); exact Kd.R_mono (Kd.R_far (p := ⟨gb128, 1, none⟩) (Kd.R_far (p := ⟨gb128, 0, none⟩) (Kd.R_types HO_7.out BK128.out (by decide)) (fun _ hk => hk.2) (.string ((rd_T35 l1_3 x48_2).f0))) (fun _ hk => hk.2) (.int .i64 ((rd_T35 l1_3 x48_2).f1))) (fun _ hk => trivial)⟩
                    have n1_ : Aside0 (((w35.setCell ⟨gb128, 0, none⟩ (.string ((rd_T35 l1_3 x48_2).f0))).setCell ⟨gb128, 1, none⟩ (.int .i64 ((rd_T35 l1_3 x48_2).f1))).heap[gb109]? = some (.cells #[.string a1_0, .string a1_1, .slice A1_2 l1_2.length c1_2, .slice (some ad127) l1_3.length c1_3] 26 (0, 0))) := ⟨by (with_reducible repeat (first | refine blk_drewN ?_ _ | refine blk_drew ?_ | refine blk_alloc ?_ _)); refine blk_far ?_ NB109_128.out _; (with_reducible repeat (first | refine blk_drewN ?_ _ | refine blk_drew ?_ | refine blk_alloc ?_ _)); refine blk_far ?_ NB109_128.out _; (with_reducible repeat (first | refine blk_drewN ?_ _ | refine blk_drew ?_ | refine blk_alloc ?_ _)); exact BK109.out⟩
                    have n2_ : Aside0 (((w35.setCell ⟨gb128, 0, none⟩ (.string ((rd_T35 l1_3 x48_2).f0))).setCell ⟨gb128, 1, none⟩ (.int .i64 ((rd_T35 l1_3 x48_2).f1))).heap[gb128]? = some (.cells #[.string ((rd_T35 l1_3 x48_2).f0), .int .i64 ((rd_T35 l1_3 x48_2).f1)] 35 (0, 0))) := ⟨by (with_reducible repeat (first | refine blk_drewN ?_ _ | refine blk_drew ?_ | refine blk_alloc ?_ _)); refine blk_put (cs := #[.string ((rd_T35 l1_3 x48_2).f0), .int .i64 0]) ?_ 1 _ rfl; (with_reducible repeat (first | refine blk_drewN ?_ _ | refine blk_drew ?_ | refine blk_alloc ?_ _)); refine blk_put (cs := #[.string (⟨#[]⟩ : ByteArray), .int .i64 0]) ?_ 0 _ rfl; (with_reducible repeat (first | refine blk_drewN ?_ _ | refine blk_drew ?_ | refine blk_alloc ?_ _)); exact BK128.out⟩
                    have n3_ : Aside0 (Below w.heap.size w ((w35.setCell ⟨gb128, 0, none⟩ (.string ((rd_T35 l1_3 x48_2).f0))).setCell ⟨gb128, 1, none⟩ (.int .i64 ((rd_T35 l1_3 x48_2).f1)))) := ⟨by repeat (first | (with_reducible first | exact HB.out | apply below_alloc | apply pw_below_drewN | apply below_drew1 | refine below_set ?_ GE109.out | refine below_set ?_ GE128.out) | exact HB.out)⟩
                    (try clear HO_7)
                    (try clear BK109)
                    (try clear BK128)
                    (try clear HB)
                    generalize ((w35.setCell ⟨gb128, 0, none⟩ (.string ((rd_T35 l1_3 x48_2).f0))).setCell ⟨gb128, 1, none⟩ (.int .i64 ((rd_T35 l1_3 x48_2).f1))) = w38 at n0_ n1_ n2_ n3_ ⊢
                    have HO_7 := n0_
                    have BK109 := n1_
                    have BK128 := n2_
                    have HB := n3_
                    clear n0_ n1_ n2_ n3_
                    have n0_ := Aside0.mk (Kd.R_drew HO_7.out)
                    have n1_ := Aside0.mk (blk_drew BK109.out)
                    have n2_ := Aside0.mk (blk_drew BK128.out)
                    have n3_ := Aside0.mk (below_drew1 HB.out)
                    clear HO_7
                    clear BK109
                    clear BK128
                    clear HB
                    have HO_7 := n0_
                    have BK109 := n1_
                    have BK128 := n2_
                    have HB := n3_
                    clear n0_ n1_ n2_ n3_
                    obtain ⟨Ao40, co40, eo40⟩ := Kd.R_slice HO_7.out
                    (first | subst eo40 | (injection eo40 with f1_ f2_ f3_; have f4_ := f1_.symm; have f5_ := f3_.symm; clear f1_ f2_ f3_; subst f4_; subst f5_))
                    refine start_ (n := 8) (S := fun w' => w'.cell? ⟨gb128, 0, none⟩ = some (.string ((rd_T35 l1_3 x48_2).f0)) ∧ w'.cell? ⟨gb128, 1, none⟩ = some (.int .i64 ((rd_T35 l1_3 x48_2).f1))) (ds := []) #[false, false, false, false, false, false, false, false] (by kernel_rfl) rfl rfl ⟨(blk_cell BK128.out 0).trans rfl, (blk_cell BK128.out 1).trans rfl⟩ (fun hHeld => ?_); refine with_tabW evcode_Put.tab15 evcode_Put.bits15 (fun HT_ HW_ => ?_)
                    generalize w38.drew = w39 at HO_7 BK109 BK128 HB hHeld ⊢
                    refine pure_ (i := 0) (N := some 52) (v := ?_) (a' := ?_) #[true, false, false, false, false, false, false, false] rfl rfl (any_of HT_.out (by kernel_rfl)) (fun _ _ _ h => h) (Or.inl ⟨by rfl, ?_⟩) ?_ ?_
                    rotate_left
                    · intro w'
                      go_simp
                      with_reducible rfl
                    rotate_left
                    · simp only [Act.put, List.setIfInBounds_toArray, List.set_cons_zero, List.set_cons_succ, i64_w, i32_w]
                      rfl
                    refine pure_ (i := 1) (N := some 53) (v := ?_) (a' := ?_) #[true, true, false, false, false, false, false, false] rfl rfl (any_of HT_.out (by kernel_rfl)) (fun _ _ _ h => h) (Or.inl ⟨by rfl, ?_⟩) ?_ ?_
                    rotate_left
                    · intro w'
                      go_simp
                      with_reducible rfl
                    rotate_left
                    · simp only [Act.put, List.setIfInBounds_toArray, List.set_cons_zero, List.set_cons_succ, i64_w, i32_w]
                      rfl
                    refine pure_ (i := 4) (N := some 56) (v := ?_) (a' := ?_) #[true, true, false, false, true, false, false, false] rfl rfl (any_of HT_.out (by kernel_rfl)) (fun _ _ _ h => h) (Or.inl ⟨by rfl, ?_⟩) ?_ ?_
                    rotate_left
                    · intro w'
                      go_simp
                      with_reducible rfl
                    rotate_left
                    · simp only [Act.put, List.setIfInBounds_toArray, List.set_cons_zero, List.set_cons_succ, i64_w, i32_w]
                      rfl
                    refine take_ (i := 2) (N := some 54) (v := ?_) (a' := ?_) #[true, true, true, false, true, false, false, false] rfl rfl (take_ofW HT_.out HW_.out (by kernel_rfl)) (fun _ _ _ h => h) (Or.inl ⟨by rfl, ?_⟩) hHeld ?_ ?_
                    rotate_left
                    · rintro w' ⟨s0, s1⟩
                      go_simp
                      with_reducible rfl
                    rotate_left
                    · simp only [Act.put, List.setIfInBounds_toArray, List.set_cons_zero, List.set_cons_succ, i64_w, i32_w]
                      rfl
                    refine take_ (i := 5) (N := some 57) (v := ?_) (a' := ?_) #[true, true, true, false, true, true, false, false] rfl rfl (take_ofW HT_.out HW_.out (by kernel_rfl)) (fun _ _ _ h => h) (Or.inl ⟨by rfl, ?_⟩) hHeld ?_ ?_
                    rotate_left
                    · rintro w' ⟨s0, s1⟩
                      go_simp
                      with_reducible rfl
                    rotate_left
                    · simp only [Act.put, List.setIfInBounds_toArray, List.set_cons_zero, List.set_cons_succ, i64_w, i32_w]
                      rfl
                    refine one_ (i := 3) (N := some 55) #[true, true, true, true, true, true, false, false] rfl rfl (one_of HT_.out (by kernel_rfl)) (by decide) (fun K hK => ?_)
                    refine goes_ Try.func23 (by kernel_rfl) rfl #[.slice Ao40 x7_2.length co40, .string ((rd_T35 l1_3 x48_2).f0)] (by rfl) rfl rfl (by (try simp only [List.map_toArray, List.map_cons, List.map_nil]); first | done | rfl | (simp only [List.length_drop, List.length_take]; rfl)) ?_
                    with_reducible refine (num_PutText.calls _ _ x7_2 ((rd_T35 l1_3 x48_2).f0) t129 _ ?side1 ?side2 A33.out).mono ?_
                    (case side1 => repeat (first | exact (Kd.R_reads' HO_7.out).2.2 | (with_reducible refine Kd.C_alloc ?_ _) | (with_reducible refine Kd.C_drewN ?_ _) | (with_reducible refine Kd.C_drew ?_)))
                    (case side2 => exact (Kd.R_reads' HO_7.out).2.1)
                    rintro e w41 ⟨v130, rfl, ho0, hb⟩
                    refine ⟨_, rfl, ?_⟩
                    have n0_ := Aside0.mk (Kd.R_elder' (by (with_reducible repeat (first | apply Kd.R_alloc | apply Kd.R_drewN | apply Kd.R_drew)); exact HO_7.out) (Kd.R_base ho0) hb)
                    have n1_ := Aside0.mk (Kd.R_lower (Kd.R_new' ho0 (Kd.R_lt (by (with_reducible repeat (first | apply Kd.R_alloc | apply Kd.R_drewN | apply Kd.R_drew)); exact HO_7.out))) (below_size (by repeat (first | (with_reducible first | exact HB.out | apply below_alloc | apply pw_below_drewN | apply below_drew1 | refine below_set ?_ GE109.out | refine below_set ?_ GE128.out) | exact HB.out))))
                    have n2_ := Aside0.mk (blk_below (g := gb109) (o := .cells #[.string a1_0, .string a1_1, .slice A1_2 l1_2.length c1_2, .slice (some ad127) l1_3.length c1_3] 26 (0, 0)) (by (with_reducible repeat (first | refine blk_drewN ?_ _ | refine blk_drew ?_ | refine blk_alloc ?_ _)); exact BK109.out) hb)
                    have n3_ := Aside0.mk (blk_below (g := gb128) (o := .cells #[.string ((rd_T35 l1_3 x48_2).f0), .int .i64 ((rd_T35 l1_3 x48_2).f1)] 35 (0, 0)) (by (with_reducible repeat (first | refine blk_drewN ?_ _ | refine blk_drew ?_ | refine blk_alloc ?_ _)); exact BK128.out) hb)
                    have n4_ := Aside0.mk (below_step (by repeat (first | (with_reducible first | exact HB.out | apply below_alloc | apply pw_below_drewN | apply below_drew1 | refine below_set ?_ GE109.out | refine below_set ?_ GE128.out) | exact HB.out)) hb)
                    clear HO_7
                    clear BK109
                    clear BK128
                    clear HB
                    have HO_7 := n0_
                    have HO131 := n1_
                    have BK109 := n2_
                    have BK128 := n3_
                    have HB := n4_
                    clear n0_ n1_ n2_ n3_ n4_
                    (try clear hb)
                    (try clear hb2)
                    (try clear hk)
                    (try clear hi)
                    (try clear ho0)
                    obtain ⟨Ao42, co42, eo42⟩ := Kd.R_slice HO131.out
                    (first | subst eo42 | (injection eo42 with f1_ f2_ f3_; have f4_ := f1_.symm; have f5_ := f3_.symm; clear f1_ f2_ f3_; subst f4_; subst f5_))
                    refine hK.out _ _ ⟨(blk_cell BK128.out 0).trans rfl, (blk_cell BK128.out 1).trans rfl⟩ (fun hHeld => ?_)
                    clear hK K
                    refine norm_ (a' := ?_) ?_ ?_
                    rotate_left
                    · show Act.put _ (some 55) _ = _
                      simp only [Act.put, List.setIfInBounds_toArray, List.set_cons_zero, List.set_cons_succ, i64_w, i32_w]
                      rfl
                    refine one_ (i := 6) (N := some 58) #[true, true, true, true, true, true, true, false] rfl rfl (one_of HT_.out (by kernel_rfl)) (by decide) (fun K hK => ?_)
                    refine goes_ Try.func24 (by kernel_rfl) rfl #[.slice Ao42 t129.length co42, .int .i64 ((rd_T35 l1_3 x48_2).f1)] (by rfl) rfl rfl (by (try simp only [List.map_toArray, List.map_cons, List.map_nil]); first | done | rfl | (simp only [List.length_drop, List.length_take]; rfl)) ?_
                    with_reducible refine (num_Put.calls _ _ t129 ((rd_T35 l1_3 x48_2).f1) t132 _ ?side1 ?side2 A34.out).mono ?_
                    (case side1 => repeat (first | exact (Kd.R_reads' HO131.out).2.2 | (with_reducible refine Kd.C_alloc ?_ _) | (with_reducible refine Kd.C_drewN ?_ _) | (with_reducible refine Kd.C_drew ?_)))
                    (case side2 => exact (Kd.R_reads' HO131.out).2.1)
                    rintro e w43 ⟨v133, rfl, ho0, hb⟩
                    refine ⟨_, rfl, ?_⟩
                    have n0_ := Aside0.mk (Kd.R_elder' (by (with_reducible repeat (first | apply Kd.R_alloc | apply Kd.R_drewN | apply Kd.R_drew)); exact HO_7.out) (Kd.R_base ho0) hb)
                    have n1_ := Aside0.mk (Kd.R_elder' (by (with_reducible repeat (first | apply Kd.R_alloc | apply Kd.R_drewN | apply Kd.R_drew)); exact HO131.out) (Kd.R_base ho0) hb)
                    have n2_ := Aside0.mk (Kd.R_lower (Kd.R_new' (Kd.R_new' ho0 (Kd.R_lt (by (with_reducible repeat (first | apply Kd.R_alloc | apply Kd.R_drewN | apply Kd.R_drew)); exact HO_7.out))) (Kd.R_lt (by (with_reducible repeat (first | apply Kd.R_alloc | apply Kd.R_drewN | apply Kd.R_drew)); exact HO131.out))) (below_size (by repeat (first | (with_reducible first | exact HB.out | apply below_alloc | apply pw_below_drewN | apply below_drew1 | refine below_set ?_ GE109.out | refine below_set ?_ GE128.out) | exact HB.out))))
                    have n3_ := Aside0.mk (blk_below (g := gb109) (o := .cells #[.string a1_0, .string a1_1, .slice A1_2 l1_2.length c1_2, .slice (some ad127) l1_3.length c1_3] 26 (0, 0)) (by (with_reducible repeat (first | refine blk_drewN ?_ _ | refine blk_drew ?_ | refine blk_alloc ?_ _)); exact BK109.out) hb)
                    have n4_ := Aside0.mk (blk_below (g := gb128) (o := .cells #[.string ((rd_T35 l1_3 x48_2).f0), .int .i64 ((rd_T35 l1_3 x48_2).f1)] 35 (0, 0)) (by (with_reducible repeat (first | refine blk_drewN ?_ _ | refine blk_drew ?_ | refine blk_alloc ?_ _)); exact BK128.out) hb)
                    have n5_ := Aside0.mk (below_step (by repeat (first | (with_reducible first | exact HB.out | apply below_alloc | apply pw_below_drewN | apply below_drew1 | refine below_set ?_ GE109.out | refine below_set ?_ GE128.out) | exact HB.out)) hb)
                    clear HO_7
                    clear HO131
                    clear BK109
                    clear BK128
                    clear HB
                    have HO_7 := n0_
                    have HO131 := n1_
                    have HO134 := n2_
                    have BK109 := n3_
                    have BK128 := n4_
                    have HB := n5_
                    clear n0_ n1_ n2_ n3_ n4_ n5_
                    (try clear hb)
                    (try clear hb2)
                    (try clear hk)
                    (try clear hi)
                    (try clear ho0)
                    refine hK.out _ _ ⟨(blk_cell BK128.out 0).trans rfl, (blk_cell BK128.out 1).trans rfl⟩ (fun hHeld => ?_)
                    clear hK K
                    refine norm_ (a' := ?_) ?_ ?_
                    rotate_left
                    · show Act.put _ (some 58) _ = _
                      simp only [Act.put, List.setIfInBounds_toArray, List.set_cons_zero, List.set_cons_succ, i64_w, i32_w]
                      rfl
                    refine pure_ (i := 7) (N := some 7) (v := ?_) (a' := ?_) #[true, true, true, true, true, true, true, true] rfl rfl (any_of HT_.out (by kernel_rfl)) (fun _ _ _ h => h) (Or.inl ⟨by rfl, ?_⟩) ?_ ?_
                    rotate_left
                    · intro w'
                      go_simp
                      with_reducible rfl
                    rotate_left
                    · simp only [Act.put, List.setIfInBounds_toArray, List.set_cons_zero, List.set_cons_succ, i64_w, i32_w]
                      rfl
                    refine done_ (done_of HT_.out (by kernel_rfl)) ?_
                    try go_wp2
                    go_roundg k2
                    case measure => have := HK1.out; have := HK2.out; omega
                    case rel => exact ⟨(t132), (wrap64 (x48_2 + 1)), (by first | rfl | (simp; done) | (simp [*]; done)), H', ⟨by have := HK1.out; have := HK2.out; omega⟩, ⟨by (with_reducible repeat (first | apply Kd.R_alloc | apply Kd.R_drewN | apply Kd.R_drew)); exact Kd.R_mono HO134.out (fun _ hk => trivial)⟩, ⟨by (with_reducible repeat (first | refine blk_drewN ?_ _ | refine blk_drew ?_ | refine blk_alloc ?_ _)); exact BK109.out⟩, ⟨by repeat (first | (with_reducible first | exact HB.out | apply below_alloc | apply pw_below_drewN | apply below_drew1 | refine below_set ?_ GE109.out | refine below_set ?_ GE128.out) | exact HB.out)⟩⟩
                  · rw [if_neg c32] at H
                    exact absurd H (by simp)
                · rw [if_neg c31] at H
                  exact absurd H (by simp)
              · rw [if_neg c30] at H
                have c30b0 : decide (x48_2 < (l1_3.length : Int)) = false := decide_eq_false c30
                clear c30
                simp only [Option.some.injEq, Prod.mk.injEq] at H
                obtain ⟨rfl, rfl⟩ := H
                go_wp2
                go_ret2
                exact ⟨_, by first | rfl | (simp [errW_none, errW_some] <;> rfl) | (simp [*, errW_none, errW_some] <;> rfl), by (with_reducible repeat (first | apply Kd.R_alloc | apply Kd.R_drewN | apply Kd.R_drew)); exact HO_7.out, by repeat (first | (with_reducible first | exact HB.out | apply below_alloc | apply pw_below_drewN | apply below_drew1 | refine below_set ?_ GE109.out) | exact HB.out)⟩
  · rw [if_neg c4] at H
    have c4b0 : (t110 == 0) = false := beq_eq_false_iff_ne.mpr c4
    have c4b1 : (t110 != 0) = true := bne_iff_ne.mpr c4
    simp only [Option.some.injEq, Prod.mk.injEq] at H
    obtain ⟨rfl, rfl⟩ := H
    go_enter Try.func10, Try.ntmps10
    go_wp2_with (first | ((with_reducible refine gate_dst (N := 3) rfl ?_); refine box_event ?hg (N := 3) ?hd (cs := #[.string a1_0, .string a1_1, .slice A1_2 l1_2.length c1_2, .slice A1_3 l1_3.length c1_3]) (t := 26) ?hr ?_; (case hd => rfl); (case hg => rfl); (case hr => first | (go_simp; done) | (go_simp; rfl)); intro gb109 hg w44 hbox hb; have n0_ := Aside0.mk (below_step (by repeat (first | (with_reducible first | exact HB.out | apply below_alloc | apply pw_below_drewN | apply below_drew1) | exact HB.out)) hb); have n1_ := Aside0.mk (hbox); have n2_ := Aside0.mk ((by rw [hg]; exact (below_size (by repeat (first | (with_reducible first | exact HB.out | apply below_alloc | apply pw_below_drewN | apply below_drew1) | exact HB.out))) : w.heap.size ≤ gb109)); have n3_ := Aside0.mk ((by rw [hg]; exact (below_size (by repeat (first | (with_reducible first | exact HB.out | apply below_alloc | apply pw_below_drewN | apply below_drew1) | exact HB.out))) : w.heap.size ≤ gb109)); clear HB; have HB := n0_; have BK109 := n1_; have GW109 := n2_; have GE109 := n3_; clear n0_ n1_ n2_ n3_; clear hb hbox hg; have hcz45_0 : w44.cell? ⟨gb109, 0, none⟩ = some (.string a1_0) := (blk_cell BK109.out 0).trans rfl; have hcz45_1 : w44.cell? ⟨gb109, 1, none⟩ = some (.string a1_1) := (blk_cell BK109.out 1).trans rfl; have hcz45_2 : w44.cell? ⟨gb109, 2, none⟩ = some (.slice A1_2 l1_2.length c1_2) := (blk_cell BK109.out 2).trans rfl; have hcz45_3 : w44.cell? ⟨gb109, 3, none⟩ = some (.slice A1_3 l1_3.length c1_3) := (blk_cell BK109.out 3).trans rfl; have hfz45_0 := blk_frozen BK109.out 0; have hfz45_1 := blk_frozen BK109.out 1; have hfz45_2 := blk_frozen BK109.out 2; have hfz45_3 := blk_frozen BK109.out 3) | ((with_reducible refine gate_callee (f := 22) rfl ?_); refine goesL_ (some 13) rfl rfl Try.func22 (by kernel_rfl) rfl #[.agg #[.string a1_0, .string a1_1, .slice A1_2 l1_2.length c1_2, .slice A1_3 l1_3.length c1_3]] rfl (by (try simp only [List.map_toArray, List.map_cons, List.map_nil]); first | done | rfl | (simp only [List.length_drop, List.length_take]; rfl)) ?_; (with_reducible refine (event_May.calls a1_0 a1_1 _ _ l1_2 _ _ l1_3 t110 _ ?side1 ?side2 ?side3 ?side4 A3.out).mono ?_); (case side1 => repeat (first | exact (Kd.C_below HR1_2.out HB.out) | (with_reducible refine Kd.C_alloc ?_ _) | (with_reducible refine Kd.C_drewN ?_ _) | (with_reducible refine Kd.C_drew ?_))); (case side2 => exact HC1_2.out); (case side3 => repeat (first | exact (Kd.C_below HR1_3.out HB.out) | (with_reducible refine Kd.C_alloc ?_ _) | (with_reducible refine Kd.C_drewN ?_ _) | (with_reducible refine Kd.C_drew ?_))); (case side4 => exact HC1_3.out); rintro e w46 ⟨rfl, hb⟩; refine ⟨_, rfl, ?_⟩; have n0_ := Aside0.mk (blk_below (g := gb109) (o := .cells #[.string a1_0, .string a1_1, .slice A1_2 l1_2.length c1_2, .slice A1_3 l1_3.length c1_3] 26 (0, 0)) (by (with_reducible repeat (first | refine blk_drewN ?_ _ | refine blk_drew ?_ | refine blk_alloc ?_ _)); exact BK109.out) hb); have n1_ := Aside0.mk (below_step (by repeat (first | (with_reducible first | exact HB.out | apply below_alloc | apply pw_below_drewN | apply below_drew1 | refine below_set ?_ GE109.out) | exact HB.out)) hb); clear BK109; clear HB; have BK109 := n0_; have HB := n1_; clear n0_ n1_; (try clear hb); (try clear hb2); (try clear hk); (try clear hi)))
    go_ret2
    exact ⟨_, by first | rfl | (simp [errW_none, errW_some] <;> rfl) | (simp [*, errW_none, errW_some] <;> rfl), by first | exact Kd.R_nil _ _ _ _ _ | exact Kd.N_nil _ _ _ _ _ | exact Kd.V_nil _ _ _ _ _ | exact Kd.Q_nil _ _ _ _ _ | exact Kd.S_nil _ _ _ _ _, by repeat (first | (with_reducible first | exact HB.out | apply below_alloc | apply pw_below_drewN | apply below_drew1 | refine below_set ?_ GE109.out) | exact HB.out)⟩

end Go.Proofs.Ytmnidohgnnpeiaa.Prt
namespace Go.Proofs.Ytmnidohgnnpeiaa.Prt
open Go.RowKit Go.Proofs.YtmnidohgnnpeiaaW.PrintWords Go.Proofs.YtmnidohgnnpeiaaW.PrintLast Go.Proofs.YtmnidohgnnpeiaaW.PrintMore
attribute [local go_sem] max2_int min2_int max_two min_two max_three min_three max_four min_four   -- for this text's walks alone
set_option linter.unusedVariables false
set_option linter.unusedSimpArgs false

end Go.Proofs.Ytmnidohgnnpeiaa.Prt
namespace Go.Proofs.Ytmnidohgnnpeiaa.Prt
open Go.RowKit Go.Proofs.YtmnidohgnnpeiaaW.PrintWords Go.Proofs.YtmnidohgnnpeiaaW.PrintLast Go.Proofs.YtmnidohgnnpeiaaW.PrintMore
attribute [local go_sem] max2_int min2_int max_two min_two max_three min_three max_four min_four   -- for this text's walks alone
set_option linter.unusedVariables false
set_option linter.unusedSimpArgs false

def registrarref04_SameAll.l0 : Nat → List (S26) → List (S26) → Int → Option (Bool)
  | 0, _, _, _ => none
  | k + 1, x0, x1, x5 => if x5 < (x0.length : Int) then (if 0 ≤ x5 then (if x5 < (x1.length : Int) then ((registrarref04_SameG.f ((rd_T26 x0 x5).f0) ((rd_T26 x0 x5).f1) ((rd_T26 x0 x5).f2) ((rd_T26 x0 x5).f3) ((rd_T26 x1 x5).f0) ((rd_T26 x1 x5).f1) ((rd_T26 x1 x5).f2) ((rd_T26 x1 x5).f3)).bind fun t326 => (if t326 = true then (registrarref04_SameAll.l0 k x0 x1 (wrap64 (x5 + 1))) else (some false))) else (none)) else (none)) else (some true)
def registrarref04_SameAll.f (k : Nat) (l0 : List (S26)) (l1 : List (S26)) : Option (Bool) := if (l0.length : Int) = (l1.length : Int) then (registrarref04_SameAll.l0 k l0 l1 0) else (some false)
def registrarref04_SameAll.T6 : Bool × List (List Nat × List Nat) := (true, [([], []), ([], []), ([0, 1], [0, 1]), ([2], [2]), ([], []), ([], []), ([4, 5], [4, 5]), ([6], [6]), ([3, 7], [3, 7]), ([8, 8, 0, 1, 2, 3, 4, 5, 6, 7, 8], [8])])
def registrarref04_SameAll.B6 : List Nat := [0, 0, 3, 7, 0, 0, 48, 112, 255, 511]
theorem registrarref04_SameAll.tab6 : rtab .any (opsOf Try.f20 6) = registrarref04_SameAll.T6 := by kernel_rfl
theorem registrarref04_SameAll.bits6 : waitsOk registrarref04_SameAll.T6.2 registrarref04_SameAll.B6 = true := by kernel_rfl
set_option maxHeartbeats 8000000 in
set_option maxRecDepth 100000 in
theorem registrarref04_SameAll.calls (k : Nat) (A0 : Option Addr) (c0 : Nat) (l0 : List (S26)) (A1 : Option Addr) (c1 : Nat) (l1 : List (S26)) (r : Bool) (w : World) (hr0 : Kd.C k26 w A0 l0.length l0) (hc0 : l0.length ≤ c0) (hr1 : Kd.C k26 w A1 l1.length l1) (hc1 : l1.length ≤ c1) (h : registrarref04_SameAll.f k l0 l1 = some r) :
    Calls Try.prog 20 #[.slice A0 l0.length c0, .slice A1 l1.length c1] w fun e w' => e = .returned (.bool r) ∧ Below w.heap.size w w' := by
  have hu26 := Try.underlying26
  have HR0 := Aside0.mk hr0
  have HC0 := Aside0.mk hc0
  clear hr0 hc0
  have HR1 := Aside0.mk hr1
  have HC1 := Aside0.mk hc1
  clear hr1 hc1
  have HB := Aside0.mk (Below.refl w.heap.size w)
  have H : (if (l0.length : Int) = (l1.length : Int) then (registrarref04_SameAll.l0 k l0 l1 0) else (some false)) = some r := h
  clear h
  by_cases c3 : (l0.length : Int) = (l1.length : Int)
  · rw [if_pos c3] at H
    have c3b0 : ((l0.length : Int) == (l1.length : Int)) = true := beq_iff_eq.mpr c3
    have c3b1 : ((l0.length : Int) != (l1.length : Int)) = false := bne_eq_false_iff_eq.mpr c3
    have c3b2 : (l0.length == l1.length) = true := by first | simpa using c3 | (simp at c3 ⊢; omega)
    clear c3
    have H' := Aside0.mk H
    clear H
    go_enter Try.func20, Try.ntmps20
    go_wp2
    go_loopg [5] k (fun kq v5 w' => ∃ (x5_1 : Int), v5 = .int .i64 x5_1 ∧ Aside0 (registrarref04_SameAll.l0 kq l0 l1 x5_1 = some r) ∧ Aside0 (kq ≤ k) ∧ Aside0 (Below w.heap.size w w'))
    case atStart => exact ⟨(0), (by first | rfl | (simp; done) | (simp [*]; done)), H', ⟨Nat.le_refl _⟩, ⟨by repeat (first | (with_reducible first | exact HB.out | apply below_alloc | apply pw_below_drewN | apply below_drew1) | exact HB.out)⟩⟩
    case round =>
      clear H'
      try clear c1
      try clear c2
      try clear p2
      try clear c3
      try clear c3b0
      try clear c3b1
      try clear c3b2
      obtain ⟨x5_1, rfl, HA, HK1, HB⟩ := hrel
      cases gk with
      | zero => exact absurd HA.out (by simp [registrarref04_SameAll.l0])
      | succ k1 =>
        have H := HA.out
        clear HA
        simp only [registrarref04_SameAll.l0] at H
        by_cases c4 : x5_1 < (l0.length : Int)
        · rw [if_pos c4] at H
          have c4b0 : decide (x5_1 < (l0.length : Int)) = true := decide_eq_true c4
          clear c4
          by_cases c5 : 0 ≤ x5_1
          · rw [if_pos c5] at H
            have c5b0 : decide (0 ≤ x5_1) = true := decide_eq_true c5
            clear c5
            by_cases c6 : x5_1 < (l1.length : Int)
            · rw [if_pos c6] at H
              have c6b0 : decide (x5_1 < (l1.length : Int)) = true := decide_eq_true c6
              clear c6
              replace H := Option.bind_eq_some_iff.mp H
              obtain ⟨t326, A70, H⟩ := H
              replace H : (if t326 = true then (registrarref04_SameAll.l0 k1 l0 l1 (wrap64 (x5_1 + 1))) else (some false)) = some r := H
              have A7 := Aside0.mk A70
              clear A70
              by_cases c8 : t326 = true
              · subst c8
                have H1 : (registrarref04_SameAll.l0 k1 l0 l1 (wrap64 (x5_1 + 1))) = some r := by rw [if_pos rfl] at H; exact H
                clear H
                have H := H1
                clear H1
                have H' := Aside0.mk H
                clear H
                try go_wp2
                have n0_ := Aside0.mk (below_drew1 HB.out)
                clear HB
                have HB := n0_
                clear n0_
                have p324 : 0 ≤ (x5_1 : Int) := of_decide_eq_true (by first | (with_reducible assumption) | assumption)
                have q324 : x5_1 < (l0.length : Int) := of_decide_eq_true (by first | (with_reducible assumption) | assumption)
                obtain ⟨ad324, A324_2, c324_2, A324_3, c324_3, e324, hx324_0, hx324_1, hx324_2, hx324_3, hl324_2, hi324_2, hl324_3, hi324_3⟩ := at_T26 HR0.out x5_1 p324 q324
                have hw324_3 := hx324_3
                have hw324_2 := hx324_2
                have hw324_1 := hx324_1
                have hw324_0 := hx324_0
                cases e324
                replace hx324_0 := (HB.out.cell (World.block_lt_of_cell? w _ hx324_0)).trans hx324_0
                replace hx324_1 := (HB.out.cell (World.block_lt_of_cell? w _ hx324_1)).trans hx324_1
                replace hx324_2 := (HB.out.cell (World.block_lt_of_cell? w _ hx324_2)).trans hx324_2
                replace hx324_3 := (HB.out.cell (World.block_lt_of_cell? w _ hx324_3)).trans hx324_3
                have HR324_2 := Aside0.mk hi324_2
                have HC324_2 := Aside0.mk hl324_2
                clear hi324_2 hl324_2
                have HR324_3 := Aside0.mk hi324_3
                have HC324_3 := Aside0.mk hl324_3
                clear hi324_3 hl324_3
                replace p324 := eq_true p324
                replace q324 := eq_true q324
                have p325 : 0 ≤ (x5_1 : Int) := of_decide_eq_true (by first | (with_reducible assumption) | assumption)
                have q325 : x5_1 < (l1.length : Int) := of_decide_eq_true (by first | (with_reducible assumption) | assumption)
                obtain ⟨ad325, A325_2, c325_2, A325_3, c325_3, e325, hx325_0, hx325_1, hx325_2, hx325_3, hl325_2, hi325_2, hl325_3, hi325_3⟩ := at_T26 HR1.out x5_1 p325 q325
                have hw325_3 := hx325_3
                have hw325_2 := hx325_2
                have hw325_1 := hx325_1
                have hw325_0 := hx325_0
                cases e325
                replace hx325_0 := (HB.out.cell (World.block_lt_of_cell? w _ hx325_0)).trans hx325_0
                replace hx325_1 := (HB.out.cell (World.block_lt_of_cell? w _ hx325_1)).trans hx325_1
                replace hx325_2 := (HB.out.cell (World.block_lt_of_cell? w _ hx325_2)).trans hx325_2
                replace hx325_3 := (HB.out.cell (World.block_lt_of_cell? w _ hx325_3)).trans hx325_3
                have HR325_2 := Aside0.mk hi325_2
                have HC325_2 := Aside0.mk hl325_2
                clear hi325_2 hl325_2
                have HR325_3 := Aside0.mk hi325_3
                have HC325_3 := Aside0.mk hl325_3
                clear hi325_3 hl325_3
                replace p325 := eq_true p325
                replace q325 := eq_true q325
                refine start_ (n := 10) (S := fun w' => w'.cell? (ad324.add ((x5_1).toNat * 4)) = some (.string ((rd_T26 l0 x5_1).f0)) ∧ w'.cell? ⟨(ad324.add ((x5_1).toNat * 4)).block, (ad324.add ((x5_1).toNat * 4)).off + 1, none⟩ = some (.string ((rd_T26 l0 x5_1).f1)) ∧ w'.cell? ⟨(ad324.add ((x5_1).toNat * 4)).block, (ad324.add ((x5_1).toNat * 4)).off + 2, none⟩ = some (.slice A324_2 ((rd_T26 l0 x5_1).f2).length c324_2) ∧ w'.cell? ⟨(ad324.add ((x5_1).toNat * 4)).block, (ad324.add ((x5_1).toNat * 4)).off + 3, none⟩ = some (.slice A324_3 ((rd_T26 l0 x5_1).f3).length c324_3) ∧ w'.cell? (ad325.add ((x5_1).toNat * 4)) = some (.string ((rd_T26 l1 x5_1).f0)) ∧ w'.cell? ⟨(ad325.add ((x5_1).toNat * 4)).block, (ad325.add ((x5_1).toNat * 4)).off + 1, none⟩ = some (.string ((rd_T26 l1 x5_1).f1)) ∧ w'.cell? ⟨(ad325.add ((x5_1).toNat * 4)).block, (ad325.add ((x5_1).toNat * 4)).off + 2, none⟩ = some (.slice A325_2 ((rd_T26 l1 x5_1).f2).length c325_2) ∧ w'.cell? ⟨(ad325.add ((x5_1).toNat * 4)).block, (ad325.add ((x5_1).toNat * 4)).off + 3, none⟩ = some (.slice A325_3 ((rd_T26 l1 x5_1).f3).length c325_3)) (ds := []) #[false, false, false, false, false, false, false, false, false, false] (by kernel_rfl) rfl rfl ⟨((HB.out.cell (World.block_lt_of_cell? w _ hw324_0)).trans hw324_0), ((HB.out.cell (World.block_lt_of_cell? w _ hw324_1)).trans hw324_1), ((HB.out.cell (World.block_lt_of_cell? w _ hw324_2)).trans hw324_2), ((HB.out.cell (World.block_lt_of_cell? w _ hw324_3)).trans hw324_3), ((HB.out.cell (World.block_lt_of_cell? w _ hw325_0)).trans hw325_0), ((HB.out.cell (World.block_lt_of_cell? w _ hw325_1)).trans hw325_1), ((HB.out.cell (World.block_lt_of_cell? w _ hw325_2)).trans hw325_2), ((HB.out.cell (World.block_lt_of_cell? w _ hw325_3)).trans hw325_3)⟩ (fun hHeld => ?_); refine with_tabW registrarref04_SameAll.tab6 registrarref04_SameAll.bits6 (fun HT_ HW_ => ?_)
                generalize wr.drew = w9 at HB HR324_2 HR324_3 HR325_2 HR325_3 hx324_0 hx324_1 hx324_2 hx324_3 hx325_0 hx325_1 hx325_2 hx325_3 hHeld ⊢
                refine pure_ (i := 0) (N := some 18) (v := ?_) (a' := ?_) #[true, false, false, false, false, false, false, false, false, false] rfl rfl (any_of HT_.out (by kernel_rfl)) (fun _ _ _ h => h) (Or.inl ⟨by rfl, ?_⟩) ?_ ?_
                rotate_left
                · intro w'
                  go_simp
                  with_reducible rfl
                rotate_left
                · simp only [Act.put, List.setIfInBounds_toArray, List.set_cons_zero, List.set_cons_succ, i64_w, i32_w]
                  rfl
                refine pure_ (i := 1) (N := some 19) (v := ?_) (a' := ?_) #[true, true, false, false, false, false, false, false, false, false] rfl rfl (any_of HT_.out (by kernel_rfl)) (fun _ _ _ h => h) (Or.inl ⟨by rfl, ?_⟩) ?_ ?_
                rotate_left
                · intro w'
                  go_simp
                  with_reducible rfl
                rotate_left
                · simp only [Act.put, List.setIfInBounds_toArray, List.set_cons_zero, List.set_cons_succ, i64_w, i32_w]
                  rfl
                refine pure_ (i := 2) (N := some 20) (v := ?_) (a' := ?_) #[true, true, true, false, false, false, false, false, false, false] rfl rfl (any_of HT_.out (by kernel_rfl)) (fun _ _ _ h => h) (Or.inl ⟨by rfl, ?_⟩) ?_ ?_
                rotate_left
                · intro w'
                  go_simp
                  with_reducible rfl
                rotate_left
                · simp only [Act.put, List.setIfInBounds_toArray, List.set_cons_zero, List.set_cons_succ, i64_w, i32_w]
                  rfl
                refine pure_ (i := 4) (N := some 22) (v := ?_) (a' := ?_) #[true, true, true, false, true, false, false, false, false, false] rfl rfl (any_of HT_.out (by kernel_rfl)) (fun _ _ _ h => h) (Or.inl ⟨by rfl, ?_⟩) ?_ ?_
                rotate_left
                · intro w'
                  go_simp
                  with_reducible rfl
                rotate_left
                · simp only [Act.put, List.setIfInBounds_toArray, List.set_cons_zero, List.set_cons_succ, i64_w, i32_w]
                  rfl
                refine pure_ (i := 5) (N := some 23) (v := ?_) (a' := ?_) #[true, true, true, false, true, true, false, false, false, false] rfl rfl (any_of HT_.out (by kernel_rfl)) (fun _ _ _ h => h) (Or.inl ⟨by rfl, ?_⟩) ?_ ?_
                rotate_left
                · intro w'
                  go_simp
                  with_reducible rfl
                rotate_left
                · simp only [Act.put, List.setIfInBounds_toArray, List.set_cons_zero, List.set_cons_succ, i64_w, i32_w]
                  rfl
                refine pure_ (i := 6) (N := some 24) (v := ?_) (a' := ?_) #[true, true, true, false, true, true, true, false, false, false] rfl rfl (any_of HT_.out (by kernel_rfl)) (fun _ _ _ h => h) (Or.inl ⟨by rfl, ?_⟩) ?_ ?_
                rotate_left
                · intro w'
                  go_simp
                  with_reducible rfl
                rotate_left
                · simp only [Act.put, List.setIfInBounds_toArray, List.set_cons_zero, List.set_cons_succ, i64_w, i32_w]
                  rfl
                refine take_ (i := 3) (N := some 21) (v := ?_) (a' := ?_) #[true, true, true, true, true, true, true, false, false, false] rfl rfl (take_ofW HT_.out HW_.out (by kernel_rfl)) (fun _ _ _ h => h) (Or.inl ⟨by rfl, ?_⟩) hHeld ?_ ?_
                rotate_left
                · rintro w' ⟨s0, s1, s2, s3, s4, s5, s6, s7⟩
                  go_simp
                  with_reducible rfl
                rotate_left
                · simp only [Act.put, List.setIfInBounds_toArray, List.set_cons_zero, List.set_cons_succ, i64_w, i32_w]
                  rfl
                refine take_ (i := 7) (N := some 25) (v := ?_) (a' := ?_) #[true, true, true, true, true, true, true, true, false, false] rfl rfl (take_ofW HT_.out HW_.out (by kernel_rfl)) (fun _ _ _ h => h) (Or.inl ⟨by rfl, ?_⟩) hHeld ?_ ?_
                rotate_left
                · rintro w' ⟨s0, s1, s2, s3, s4, s5, s6, s7⟩
                  go_simp
                  with_reducible rfl
                rotate_left
                · simp only [Act.put, List.setIfInBounds_toArray, List.set_cons_zero, List.set_cons_succ, i64_w, i32_w]
                  rfl
                refine one_ (i := 8) (N := some 26) #[true, true, true, true, true, true, true, true, true, false] rfl rfl (one_of HT_.out (by kernel_rfl)) (by decide) (fun K hK => ?_)
                refine goes_ Try.func13 (by kernel_rfl) rfl #[.agg #[.string ((rd_T26 l0 x5_1).f0), .string ((rd_T26 l0 x5_1).f1), .slice A324_2 ((rd_T26 l0 x5_1).f2).length c324_2, .slice A324_3 ((rd_T26 l0 x5_1).f3).length c324_3], .agg #[.string ((rd_T26 l1 x5_1).f0), .string ((rd_T26 l1 x5_1).f1), .slice A325_2 ((rd_T26 l1 x5_1).f2).length c325_2, .slice A325_3 ((rd_T26 l1 x5_1).f3).length c325_3]] (by rfl) rfl rfl (by (try simp only [List.map_toArray, List.map_cons, List.map_nil]); first | done | rfl | (simp only [List.length_drop, List.length_take]; rfl)) ?_
                with_reducible refine (registrarref04_SameG.calls ((rd_T26 l0 x5_1).f0) ((rd_T26 l0 x5_1).f1) _ _ ((rd_T26 l0 x5_1).f2) _ _ ((rd_T26 l0 x5_1).f3) ((rd_T26 l1 x5_1).f0) ((rd_T26 l1 x5_1).f1) _ _ ((rd_T26 l1 x5_1).f2) _ _ ((rd_T26 l1 x5_1).f3) true _ ?side1 ?side2 ?side3 ?side4 ?side5 ?side6 ?side7 ?side8 A7.out).mono ?_
                (case side1 => repeat (first | exact (Kd.C_below HR324_2.out HB.out) | (with_reducible refine Kd.C_alloc ?_ _) | (with_reducible refine Kd.C_drewN ?_ _) | (with_reducible refine Kd.C_drew ?_)))
                (case side2 => exact HC324_2.out)
                (case side3 => repeat (first | exact (Kd.C_below HR324_3.out HB.out) | (with_reducible refine Kd.C_alloc ?_ _) | (with_reducible refine Kd.C_drewN ?_ _) | (with_reducible refine Kd.C_drew ?_)))
                (case side4 => exact HC324_3.out)
                (case side5 => repeat (first | exact (Kd.C_below HR325_2.out HB.out) | (with_reducible refine Kd.C_alloc ?_ _) | (with_reducible refine Kd.C_drewN ?_ _) | (with_reducible refine Kd.C_drew ?_)))
                (case side6 => exact HC325_2.out)
                (case side7 => repeat (first | exact (Kd.C_below HR325_3.out HB.out) | (with_reducible refine Kd.C_alloc ?_ _) | (with_reducible refine Kd.C_drewN ?_ _) | (with_reducible refine Kd.C_drew ?_)))
                (case side8 => exact HC325_3.out)
                rintro e w10 ⟨rfl, hb⟩
                refine ⟨_, rfl, ?_⟩
                have n0_ := Aside0.mk (below_step (by repeat (first | (with_reducible first | exact HB.out | apply below_alloc | apply pw_below_drewN | apply below_drew1) | exact HB.out)) hb)
                clear HB
                have HB := n0_
                clear n0_
                (try clear hb)
                (try clear hb2)
                (try clear hk)
                (try clear hi)
                refine hK.out _ _ ⟨((HB.out.cell (World.block_lt_of_cell? w _ hw324_0)).trans hw324_0), ((HB.out.cell (World.block_lt_of_cell? w _ hw324_1)).trans hw324_1), ((HB.out.cell (World.block_lt_of_cell? w _ hw324_2)).trans hw324_2), ((HB.out.cell (World.block_lt_of_cell? w _ hw324_3)).trans hw324_3), ((HB.out.cell (World.block_lt_of_cell? w _ hw325_0)).trans hw325_0), ((HB.out.cell (World.block_lt_of_cell? w _ hw325_1)).trans hw325_1), ((HB.out.cell (World.block_lt_of_cell? w _ hw325_2)).trans hw325_2), ((HB.out.cell (World.block_lt_of_cell? w _ hw325_3)).trans hw325_3)⟩ (fun hHeld => ?_)
                clear hK K
                refine norm_ (a' := ?_) ?_ ?_
                rotate_left
                · show Act.put _ (some 26) _ = _
                  simp only [Act.put, List.setIfInBounds_toArray, List.set_cons_zero, List.set_cons_succ, i64_w, i32_w]
                  rfl
                refine pure_ (i := 9) (N := some 6) (v := ?_) (a' := ?_) #[true, true, true, true, true, true, true, true, true, true] rfl rfl (any_of HT_.out (by kernel_rfl)) (fun _ _ _ h => h) (Or.inl ⟨by rfl, ?_⟩) ?_ ?_
                rotate_left
                · intro w'
                  go_simp
                  with_reducible rfl
                rotate_left
                · simp only [Act.put, List.setIfInBounds_toArray, List.set_cons_zero, List.set_cons_succ, i64_w, i32_w]
                  rfl
                refine done_ (done_of HT_.out (by kernel_rfl)) ?_
                try go_wp2
                go_roundg k1
                case measure => have := HK1.out; omega
                case rel => exact ⟨(wrap64 (x5_1 + 1)), (by first | rfl | (simp; done) | (simp [*]; done)), H', ⟨by have := HK1.out; omega⟩, ⟨by repeat (first | (with_reducible first | exact HB.out | apply below_alloc | apply pw_below_drewN | apply below_drew1) | exact HB.out)⟩⟩
              · replace c8 := Bool.eq_false_iff.mpr c8
                subst c8
                have H1 : (some false) = some r := by rw [if_neg (show ¬ (false = true) by decide)] at H; exact H
                clear H
                have H := H1
                clear H1
                obtain rfl := Option.some.inj H
                try go_wp2
                have n0_ := Aside0.mk (below_drew1 HB.out)
                clear HB
                have HB := n0_
                clear n0_
                have p324 : 0 ≤ (x5_1 : Int) := of_decide_eq_true (by first | (with_reducible assumption) | assumption)
                have q324 : x5_1 < (l0.length : Int) := of_decide_eq_true (by first | (with_reducible assumption) | assumption)
                obtain ⟨ad324, A324_2, c324_2, A324_3, c324_3, e324, hx324_0, hx324_1, hx324_2, hx324_3, hl324_2, hi324_2, hl324_3, hi324_3⟩ := at_T26 HR0.out x5_1 p324 q324
                have hw324_3 := hx324_3
                have hw324_2 := hx324_2
                have hw324_1 := hx324_1
                have hw324_0 := hx324_0
                cases e324
                replace hx324_0 := (HB.out.cell (World.block_lt_of_cell? w _ hx324_0)).trans hx324_0
                replace hx324_1 := (HB.out.cell (World.block_lt_of_cell? w _ hx324_1)).trans hx324_1
                replace hx324_2 := (HB.out.cell (World.block_lt_of_cell? w _ hx324_2)).trans hx324_2
                replace hx324_3 := (HB.out.cell (World.block_lt_of_cell? w _ hx324_3)).trans hx324_3
                have HR324_2 := Aside0.mk hi324_2
                have HC324_2 := Aside0.mk hl324_2
                clear hi324_2 hl324_2
                have HR324_3 := Aside0.mk hi324_3
                have HC324_3 := Aside0.mk hl324_3
                clear hi324_3 hl324_3
                replace p324 := eq_true p324
                replace q324 := eq_true q324
                have p325 : 0 ≤ (x5_1 : Int) := of_decide_eq_true (by first | (with_reducible assumption) | assumption)
                have q325 : x5_1 < (l1.length : Int) := of_decide_eq_true (by first | (with_reducible assumption) | assumption)
                obtain ⟨ad325, A325_2, c325_2, A325_3, c325_3, e325, hx325_0, hx325_1, hx325_2, hx325_3, hl325_2, hi325_2, hl325_3, hi325_3⟩ := at_T26 HR1.out x5_1 p325 q325
                have hw325_3 := hx325_3
                have hw325_2 := hx325_2
                have hw325_1 := hx325_1
                have hw325_0 := hx325_0
                cases e325
                replace hx325_0 := (HB.out.cell (World.block_lt_of_cell? w _ hx325_0)).trans hx325_0
                replace hx325_1 := (HB.out.cell (World.block_lt_of_cell? w _ hx325_1)).trans hx325_1
                replace hx325_2 := (HB.out.cell (World.block_lt_of_cell? w _ hx325_2)).trans hx325_2
                replace hx325_3 := (HB.out.cell (World.block_lt_of_cell? w _ hx325_3)).trans hx325_3
                have HR325_2 := Aside0.mk hi325_2
                have HC325_2 := Aside0.mk hl325_2
                clear hi325_2 hl325_2
                have HR325_3 := Aside0.mk hi325_3
                have HC325_3 := Aside0.mk hl325_3
                clear hi325_3 hl325_3
                replace p325 := eq_true p325
                replace q325 := eq_true q325
                refine start_ (n := 10) (S := fun w' => w'.cell? (ad324.add ((x5_1).toNat * 4)) = some (.string ((rd_T26 l0 x5_1).f0)) ∧ w'.cell? ⟨(ad324.add ((x5_1).toNat * 4)).block, (ad324.add ((x5_1).toNat * 4)).off + 1, none⟩ = some (.string ((rd_T26 l0 x5_1).f1)) ∧ w'.cell? ⟨(ad324.add ((x5_1).toNat * 4)).block, (ad324.add ((x5_1).toNat * 4)).off + 2, none⟩ = some (.slice A324_2 ((rd_T26 l0 x5_1).f2).length c324_2) ∧ w'.cell? ⟨(ad324.add ((x5_1).toNat * 4)).block, (ad324.add ((x5_1).toNat * 4)).off + 3, none⟩ = some (.slice A324_3 ((rd_T26 l0 x5_1).f3).length c324_3) ∧ w'.cell? (ad325.add ((x5_1).toNat * 4)) = some (.string ((rd_T26 l1 x5_1).f0)) ∧ w'.cell? ⟨(ad325.add ((x5_1).toNat * 4)).block, (ad325.add ((x5_1).toNat * 4)).off + 1, none⟩ = some (.string ((rd_T26 l1 x5_1).f1)) ∧ w'.cell? ⟨(ad325.add ((x5_1).toNat * 4)).block, (ad325.add ((x5_1).toNat * 4)).off + 2, none⟩ = some (.slice A325_2 ((rd_T26 l1 x5_1).f2).length c325_2) ∧ w'.cell? ⟨(ad325.add ((x5_1).toNat * 4)).block, (ad325.add ((x5_1).toNat * 4)).off + 3, none⟩ = some (.slice A325_3 ((rd_T26 l1 x5_1).f3).length c325_3)) (ds := []) #[false, false, false, false, false, false, false, false, false, false] (by kernel_rfl) rfl rfl ⟨((HB.out.cell (World.block_lt_of_cell? w _ hw324_0)).trans hw324_0), ((HB.out.cell (World.block_lt_of_cell? w _ hw324_1)).trans hw324_1), ((HB.out.cell (World.block_lt_of_cell? w _ hw324_2)).trans hw324_2), ((HB.out.cell (World.block_lt_of_cell? w _ hw324_3)).trans hw324_3), ((HB.out.cell (World.block_lt_of_cell? w _ hw325_0)).trans hw325_0), ((HB.out.cell (World.block_lt_of_cell? w _ hw325_1)).trans hw325_1), ((HB.out.cell (World.block_lt_of_cell? w _ hw325_2)).trans hw325_2), ((HB.out.cell (World.block_lt_of_cell? w _ hw325_3)).trans hw325_3)⟩ (fun hHeld => ?_); refine with_tabW registrarref04_SameAll.tab6 registrarref04_SameAll.bits6 (fun HT_ HW_ => ?_)
                generalize wr.drew = w11 at HB HR324_2 HR324_3 HR325_2 HR325_3 hx324_0 hx324_1 hx324_2 hx324_3 hx325_0 hx325_1 hx325_2 hx325_3 hHeld ⊢
                refine pure_ (i := 0) (N := some 18) (v := ?_) (a' := ?_) #[true, false, false, false, false, false, false, false, false, false] rfl rfl (any_of HT_.out (by kernel_rfl)) (fun _ _ _ h => h) (Or.inl ⟨by rfl, ?_⟩) ?_ ?_
                rotate_left
                · intro w'
                  go_simp
                  with_reducible rfl
                rotate_left
                · simp only [Act.put, List.setIfInBounds_toArray, List.set_cons_zero, List.set_cons_succ, i64_w, i32_w]
                  rfl
                refine pure_ (i := 1) (N := some 19) (v := ?_) (a' := ?_) #[true, true, false, false, false, false, false, false, false, false] rfl rfl (any_of HT_.out (by kernel_rfl)) (fun _ _ _ h => h) (Or.inl ⟨by rfl, ?_⟩) ?_ ?_
                rotate_left
                · intro w'
                  go_simp
                  with_reducible rfl
                rotate_left
                · simp only [Act.put, List.setIfInBounds_toArray, List.set_cons_zero, List.set_cons_succ, i64_w, i32_w]
                  rfl
                refine pure_ (i := 2) (N := some 20) (v := ?_) (a' := ?_) #[true, true, true, false, false, false, false, false, false, false] rfl rfl (any_of HT_.out (by kernel_rfl)) (fun _ _ _ h => h) (Or.inl ⟨by rfl, ?_⟩) ?_ ?_
                rotate_left
                · intro w'
                  go_simp
                  with_reducible rfl
                rotate_left
                · simp only [Act.put, List.setIfInBounds_toArray, List.set_cons_zero, List.set_cons_succ, i64_w, i32_w]
                  rfl
                refine pure_ (i := 4) (N := some 22) (v := ?_) (a' := ?_) #[true, true, true, false, true, false, false, false, false, false] rfl rfl (any_of HT_.out (by kernel_rfl)) (fun _ _ _ h => h) (Or.inl ⟨by rfl, ?_⟩) ?_ ?_
                rotate_left
                · intro w'
                  go_simp
                  with_reducible rfl
                rotate_left
                · simp only [Act.put, List.setIfInBounds_toArray, List.set_cons_zero, List.set_cons_succ, i64_w, i32_w]
                  rfl
                refine pure_ (i := 5) (N := some 23) (v := ?_) (a' := ?_) #[true, true, true, false, true, true, false, false, false, false] rfl rfl (any_of HT_.out (by kernel_rfl)) (fun _ _ _ h => h) (Or.inl ⟨by rfl, ?_⟩) ?_ ?_
                rotate_left
                · intro w'
                  go_simp
                  with_reducible rfl
                rotate_left
                · simp only [Act.put, List.setIfInBounds_toArray, List.set_cons_zero, List.set_cons_succ, i64_w, i32_w]
                  rfl
                refine pure_ (i := 6) (N := some 24) (v := ?_) (a' := ?_) #[true, true, true, false, true, true, true, false, false, false] rfl rfl (any_of HT_.out (by kernel_rfl)) (fun _ _ _ h => h) (Or.inl ⟨by rfl, ?_⟩) ?_ ?_
                rotate_left
                · intro w'
                  go_simp
                  with_reducible rfl
                rotate_left
                · simp only [Act.put, List.setIfInBounds_toArray, List.set_cons_zero, List.set_cons_succ, i64_w, i32_w]
                  rfl
                refine take_ (i := 3) (N := some 21) (v := ?_) (a' := ?_) #[true, true, true, true, true, true, true, false, false, false] rfl rfl (take_ofW HT_.out HW_.out (by kernel_rfl)) (fun _ _ _ h => h) (Or.inl ⟨by rfl, ?_⟩) hHeld ?_ ?_
                rotate_left
                · rintro w' ⟨s0, s1, s2, s3, s4, s5, s6, s7⟩
                  go_simp
                  with_reducible rfl
                rotate_left
                · simp only [Act.put, List.setIfInBounds_toArray, List.set_cons_zero, List.set_cons_succ, i64_w, i32_w]
                  rfl
                refine take_ (i := 7) (N := some 25) (v := ?_) (a' := ?_) #[true, true, true, true, true, true, true, true, false, false] rfl rfl (take_ofW HT_.out HW_.out (by kernel_rfl)) (fun _ _ _ h => h) (Or.inl ⟨by rfl, ?_⟩) hHeld ?_ ?_
                rotate_left
                · rintro w' ⟨s0, s1, s2, s3, s4, s5, s6, s7⟩
                  go_simp
                  with_reducible rfl
                rotate_left
                · simp only [Act.put, List.setIfInBounds_toArray, List.set_cons_zero, List.set_cons_succ, i64_w, i32_w]
                  rfl
                refine one_ (i := 8) (N := some 26) #[true, true, true, true, true, true, true, true, true, false] rfl rfl (one_of HT_.out (by kernel_rfl)) (by decide) (fun K hK => ?_)
                refine goes_ Try.func13 (by kernel_rfl) rfl #[.agg #[.string ((rd_T26 l0 x5_1).f0), .string ((rd_T26 l0 x5_1).f1), .slice A324_2 ((rd_T26 l0 x5_1).f2).length c324_2, .slice A324_3 ((rd_T26 l0 x5_1).f3).length c324_3], .agg #[.string ((rd_T26 l1 x5_1).f0), .string ((rd_T26 l1 x5_1).f1), .slice A325_2 ((rd_T26 l1 x5_1).f2).length c325_2, .slice A325_3 ((rd_T26 l1 x5_1).f3).length c325_3]] (by rfl) rfl rfl (by (try simp only [List.map_toArray, List.map_cons, List.map_nil]); first | done | rfl | (simp only [List.length_drop, List.length_take]; rfl)) ?_
                with_reducible refine (registrarref04_SameG.calls ((rd_T26 l0 x5_1).f0) ((rd_T26 l0 x5_1).f1) _ _ ((rd_T26 l0 x5_1).f2) _ _ ((rd_T26 l0 x5_1).f3) ((rd_T26 l1 x5_1).f0) ((rd_T26 l1 x5_1).f1) _ _ ((rd_T26 l1 x5_1).f2) _ _ ((rd_T26 l1 x5_1).f3) false _ ?side1 ?side2 ?side3 ?side4 ?side5 ?side6 ?side7 ?side8 A7.out).mono ?_
                (case side1 => repeat (first | exact (Kd.C_below HR324_2.out HB.out) | (with_reducible refine Kd.C_alloc ?_ _) | (with_reducible refine Kd.C_drewN ?_ _) | (with_reducible refine Kd.C_drew ?_)))
                (case side2 => exact HC324_2.out)
                (case side3 => repeat (first | exact (Kd.C_below HR324_3.out HB.out) | (with_reducible refine Kd.C_alloc ?_ _) | (with_reducible refine Kd.C_drewN ?_ _) | (with_reducible refine Kd.C_drew ?_)))
                (case side4 => exact HC324_3.out)
                (case side5 => repeat (first | exact (Kd.C_below HR325_2.out HB.out) | (with_reducible refine Kd.C_alloc ?_ _) | (with_reducible refine Kd.C_drewN ?_ _) | (with_reducible refine Kd.C_drew ?_)))
                (case side6 => exact HC325_2.out)
                (case side7 => repeat (first | exact (Kd.C_below HR325_3.out HB.out) | (with_reducible refine Kd.C_alloc ?_ _) | (with_reducible refine Kd.C_drewN ?_ _) | (with_reducible refine Kd.C_drew ?_)))
                (case side8 => exact HC325_3.out)
                rintro e w12 ⟨rfl, hb⟩
                refine ⟨_, rfl, ?_⟩
                have n0_ := Aside0.mk (below_step (by repeat (first | (with_reducible first | exact HB.out | apply below_alloc | apply pw_below_drewN | apply below_drew1) | exact HB.out)) hb)
                clear HB
                have HB := n0_
                clear n0_
                (try clear hb)
                (try clear hb2)
                (try clear hk)
                (try clear hi)
                refine hK.out _ _ ⟨((HB.out.cell (World.block_lt_of_cell? w _ hw324_0)).trans hw324_0), ((HB.out.cell (World.block_lt_of_cell? w _ hw324_1)).trans hw324_1), ((HB.out.cell (World.block_lt_of_cell? w _ hw324_2)).trans hw324_2), ((HB.out.cell (World.block_lt_of_cell? w _ hw324_3)).trans hw324_3), ((HB.out.cell (World.block_lt_of_cell? w _ hw325_0)).trans hw325_0), ((HB.out.cell (World.block_lt_of_cell? w _ hw325_1)).trans hw325_1), ((HB.out.cell (World.block_lt_of_cell? w _ hw325_2)).trans hw325_2), ((HB.out.cell (World.block_lt_of_cell? w _ hw325_3)).trans hw325_3)⟩ (fun hHeld => ?_)
                clear hK K
                refine norm_ (a' := ?_) ?_ ?_
                rotate_left
                · show Act.put _ (some 26) _ = _
                  simp only [Act.put, List.setIfInBounds_toArray, List.set_cons_zero, List.set_cons_succ, i64_w, i32_w]
                  rfl
                refine pure_ (i := 9) (N := some 6) (v := ?_) (a' := ?_) #[true, true, true, true, true, true, true, true, true, true] rfl rfl (any_of HT_.out (by kernel_rfl)) (fun _ _ _ h => h) (Or.inl ⟨by rfl, ?_⟩) ?_ ?_
                rotate_left
                · intro w'
                  go_simp
                  with_reducible rfl
                rotate_left
                · simp only [Act.put, List.setIfInBounds_toArray, List.set_cons_zero, List.set_cons_succ, i64_w, i32_w]
                  rfl
                refine done_ (done_of HT_.out (by kernel_rfl)) ?_
                try go_wp2
                go_ret
                exact ⟨by first | rfl | (simp [errW_none, errW_some] <;> rfl) | (simp [*, errW_none, errW_some] <;> rfl), by repeat (first | (with_reducible first | exact HB.out | apply below_alloc | apply pw_below_drewN | apply below_drew1) | exact HB.out)⟩
            · rw [if_neg c6] at H
              exact absurd H (by simp)
          · rw [if_neg c5] at H
            exact absurd H (by simp)
        · rw [if_neg c4] at H
          have c4b0 : decide (x5_1 < (l0.length : Int)) = false := decide_eq_false c4
          clear c4
          obtain rfl := Option.some.inj H
          go_wp2
          go_ret
          exact ⟨by first | rfl | (simp [errW_none, errW_some] <;> rfl) | (simp [*, errW_none, errW_some] <;> rfl), by repeat (first | (with_reducible first | exact HB.out | apply below_alloc | apply pw_below_drewN | apply below_drew1) | exact HB.out)⟩
  · rw [if_neg c3] at H
    have c3b0 : ((l0.length : Int) == (l1.length : Int)) = false := beq_eq_false_iff_ne.mpr c3
    have c3b1 : ((l0.length : Int) != (l1.length : Int)) = true := bne_iff_ne.mpr c3
    have c3b2 : (l0.length == l1.length) = false := by first | simpa using c3 | (simp at c3 ⊢; omega)
    obtain rfl := Option.some.inj H
    go_enter Try.func20, Try.ntmps20
    go_wp2
    go_ret
    exact ⟨by first | rfl | (simp [errW_none, errW_some] <;> rfl) | (simp [*, errW_none, errW_some] <;> rfl), by repeat (first | (with_reducible first | exact HB.out | apply below_alloc | apply pw_below_drewN | apply below_drew1) | exact HB.out)⟩

end Go.Proofs.Ytmnidohgnnpeiaa.Prt
namespace Go.Proofs.Ytmnidohgnnpeiaa.Prt
open Go.RowKit Go.Proofs.YtmnidohgnnpeiaaW.PrintWords Go.Proofs.YtmnidohgnnpeiaaW.PrintLast Go.Proofs.YtmnidohgnnpeiaaW.PrintMore Go.Proofs.Ytmnidohgnnpeiaa.Num Go.Proofs.Ytmnidohgnnpeiaa.Nam
set_option linter.unusedVariables false
set_option linter.unusedSimpArgs false

theorem drop_rdE (l : List S26) (i : Nat) (h : i < l.length) : l.drop i = rd_T26 l (i : Int) :: l.drop (i + 1) := by
  rw [List.drop_eq_getElem_cons h]
  unfold rd_T26
  rw [Int.toNat_natCast, List.getD_eq_getElem?_getD, List.getElem?_eq_getElem h]; rfl
theorem rdE_mem {l : List S26} {i : Nat} (h : i < l.length) : rd_T26 l (i : Int) ∈ l := getD_mem' h _
def eqE (x y : S26) : Bool := eqEv x.f0 x.f1 x.f2 x.f3 y.f0 y.f1 y.f2 y.f3
theorem eqE_iff (x y : S26) : eqE x y = true ↔ x = y := by
  unfold eqE
  rw [eqEv_iff]
  cases x; cases y; simp
def lenE (x : S26) : Bool := decide (x.f2.length ≤ 9223372036854775807) && decide (x.f3.length ≤ 9223372036854775807)
theorem sameAll_loop (a b : List S26) (hl : a.length ≤ 9223372036854775807) (hab : a.length = b.length) (hla : a.all lenE = true) : ∀ (n i k : Nat), i + n = a.length → n < k → registrarref04_SameAll.l0 k a b (i : Int) = some (eqL eqE (a.drop i) (b.drop i)) := by
  intro n
  induction n with
  | zero =>
    intro i k hi hk
    obtain ⟨k, rfl⟩ : ∃ m, k = m + 1 := ⟨k - 1, by omega⟩
    rw [registrarref04_SameAll.l0, if_neg (by omega), List.drop_eq_nil_of_le (by omega), List.drop_eq_nil_of_le (by omega)]; rfl
  | succ n ih =>
    intro i k hi hk
    obtain ⟨k, rfl⟩ : ∃ m, k = m + 1 := ⟨k - 1, by omega⟩
    have hx := List.all_eq_true.1 hla _ (rdE_mem (l := a) (i := i) (by omega))
    unfold lenE at hx
    rw [Bool.and_eq_true, decide_eq_true_iff, decide_eq_true_iff] at hx
    have m1 : registrarref04_SameG.f (rd_T26 a (i : Int)).f0 (rd_T26 a (i : Int)).f1 (rd_T26 a (i : Int)).f2 (rd_T26 a (i : Int)).f3 (rd_T26 b (i : Int)).f0 (rd_T26 b (i : Int)).f1 (rd_T26 b (i : Int)).f2 (rd_T26 b (i : Int)).f3 = some (eqE (rd_T26 a (i : Int)) (rd_T26 b (i : Int))) := if_pos hx
    rw [registrarref04_SameAll.l0, if_pos (by omega), if_pos (by omega), if_pos (by omega), m1, drop_rdE a i (by omega), drop_rdE b i (by omega), eqL]
    simp only [Option.bind_some]
    cases eqE (rd_T26 a (i : Int)) (rd_T26 b (i : Int)) with
    | true => rw [if_pos rfl, succW i (by omega), ih (i + 1) k (by omega) (by omega)]; rfl
    | false => rfl
def registrarref04_SameAllG.f (l0 : List (S26)) (l1 : List (S26)) : Option (Bool) := if l0.length ≤ 9223372036854775807 ∧ l0.all lenE = true then some (eqL eqE l0 l1) else none
theorem registrarref04_SameAllG.val {l0 l1 : List (S26)} {r : Bool} (h : registrarref04_SameAllG.f l0 l1 = some r) : ∃ k, registrarref04_SameAll.f k l0 l1 = some r := by
  unfold registrarref04_SameAllG.f at h
  by_cases hc : l0.length ≤ 9223372036854775807 ∧ l0.all lenE = true
  · rw [if_pos hc] at h
    rw [← h]
    refine ⟨l0.length + 1, ?_⟩
    unfold registrarref04_SameAll.f
    by_cases hl : l0.length = l1.length
    · rw [if_pos (by omega)]
      exact sameAll_loop l0 l1 hc.1 hl hc.2 l0.length 0 (l0.length + 1) (by omega) (by omega)
    · rw [if_neg (by omega), eqL_len _ _ hl]
  · rw [if_neg hc] at h; cases h
theorem registrarref04_SameAllG.calls (A0 : Option Addr) (c0 : Nat) (l0 : List (S26)) (A1 : Option Addr) (c1 : Nat) (l1 : List (S26)) (r : Bool) (w : World) (hr0 : Kd.C k26 w A0 l0.length l0) (hc0 : l0.length ≤ c0) (hr1 : Kd.C k26 w A1 l1.length l1) (hc1 : l1.length ≤ c1) (h : registrarref04_SameAllG.f l0 l1 = some r) :
    Calls Try.prog 20 #[.slice A0 l0.length c0, .slice A1 l1.length c1] w fun e w' => e = .returned (.bool r) ∧ Below w.heap.size w w' := by
  obtain ⟨k, hk⟩ := registrarref04_SameAllG.val h
  exact registrarref04_SameAll.calls k A0 c0 l0 A1 c1 l1 r w hr0 hc0 hr1 hc1 hk

def encTs (l : List ByteArray) : List Int := l.flatMap fun s => encT (bytesOf s)
def encFs (l : List S35) : List Int := l.flatMap fun f => encT (bytesOf f.f0) ++ enc f.f1
/-- An event as bytes. -/
def encEv (s t : ByteArray) (tags : List ByteArray) (fl : List S35) : List Int :=
  encT (bytesOf s) ++ (encT (bytesOf t) ++ ((enc (tags.length : Int) ++ encTs tags) ++ (enc (fl.length : Int) ++ encFs fl)))
theorem encT_len (s : ByteArray) (h : s.size ≤ 9223372036854775807) : (encT (bytesOf s)).length ≤ 10 + s.size := by
  unfold encT
  have := enc_len (x := ((bytesOf s).length : Int)) ⟨by omega, by rw [bytes_length]; omega⟩
  rw [List.length_append, bytes_length] at *; omega
theorem may_size {s : ByteArray} (h : mayL (bytesOf s) = true) : s.size ≤ 24 := by have := (may_parts h).2.1; rwa [bytes_length] at this
theorem tag_size {s : ByteArray} (h : tagB s = true) : s.size ≤ 49 := by
  obtain ⟨k, v, hs, h1, h2⟩ := (tagB_iff s).1 h
  have := may_size h1
  have := may_size h2
  rw [hs, ByteArray.size_append, ByteArray.size_append]
  show k.size + 1 + v.size ≤ 49
  omega
/-- What an event is in which nothing is wrong. -/
structure OkE (s t : ByteArray) (tags : List ByteArray) (fl : List S35) : Prop where
  hs : mayL (bytesOf s) = true
  ht : mayL (bytesOf t) = true
  ht6 : tags.length ≤ 6
  hf4 : fl.length ≤ 4
  htag : ∀ x ∈ tags, tagB x = true
  hname : ∀ x ∈ fl, mayL (bytesOf x.f0) = true
  hr1 : riseB tags = true
  hr2 : riseB (fl.map (·.f0)) = true
  hov : ∀ x ∈ fl, -1099511627776 ≤ x.f1 ∧ x.f1 ≤ 1099511627776
theorem okE_iff (s t : ByteArray) (tags : List ByteArray) (fl : List S35) : mayE s t tags fl = 0 ↔ OkE s t tags fl := by
  unfold mayE
  constructor
  · intro h
    by_cases c1 : mayL (bytesOf s) = false ∨ mayL (bytesOf t) = false
    · rw [if_pos c1] at h; cases h
    rw [if_neg c1] at h
    by_cases c2 : 6 < tags.length ∨ 4 < fl.length
    · rw [if_pos c2] at h; cases h
    rw [if_neg c2] at h
    by_cases c3 : (tags.any fun s => !tagB s) = true ∨ ((fl.map (·.f0)).any fun s => !mayL (bytesOf s)) = true
    · rw [if_pos c3] at h; cases h
    rw [if_neg c3] at h
    by_cases c4 : riseB tags = false ∨ riseB (fl.map (·.f0)) = false ∨ fl.any overB = true
    · rw [if_pos c4] at h; cases h
    simp only [not_or, Bool.not_eq_false, Bool.not_eq_true] at c1 c3 c4
    refine ⟨c1.1, c1.2, by omega, by omega, fun x hx => ?_, fun x hx => ?_, c4.1, c4.2.1, fun x hx => ?_⟩
    · have := List.any_eq_false.1 c3.1 x hx; simpa using this
    · have := List.any_eq_false.1 c3.2 x.f0 (List.mem_map.2 ⟨x, hx, rfl⟩); simpa using this
    · have := List.any_eq_false.1 c4.2.2 x hx
      unfold overB at this
      rw [decide_eq_true_iff] at this
      omega
  · intro h
    rw [if_neg (by rw [h.hs, h.ht]; simp), if_neg (by have := h.ht6; have := h.hf4; omega), if_neg ?_, if_neg ?_]
    · rw [h.hr1, h.hr2]
      have : fl.any overB = false := List.any_eq_false.2 (fun x hx => by unfold overB; rw [decide_eq_true_iff]; have := h.hov x hx; omega)
      rw [this]; simp
    · rintro (c | c)
      · obtain ⟨x, hx, h2⟩ := List.any_eq_true.1 c
        rw [h.htag x hx] at h2; cases h2
      · obtain ⟨y, hy, h2⟩ := List.any_eq_true.1 c
        obtain ⟨x, hx, rfl⟩ := List.mem_map.1 hy
        rw [h.hname x hx] at h2; cases h2

theorem evcode_Put_l1 (s t : ByteArray) (tags : List ByteArray) (fl : List S35) (hf : fl.length ≤ 4) (hn : ∀ x ∈ fl, x.f0.size ≤ 24) (ho : ∀ x ∈ fl, -1099511627776 ≤ x.f1 ∧ x.f1 ≤ 1099511627776) : ∀ (n i k : Nat) (x : List Int), i + n = fl.length → n < k → x.length + 50 * n ≤ 140737488348000 → evcode_Put.l1 k x fl (fl.length : Int) (i : Int) = some (x ++ encFs (fl.drop i), 0) := by
  intro n
  induction n with
  | zero =>
    intro i k x hi hk hx
    obtain ⟨k, rfl⟩ : ∃ m, k = m + 1 := ⟨k - 1, by omega⟩
    rw [evcode_Put.l1, if_neg (by omega), List.drop_eq_nil_of_le (by omega)]
    unfold encFs; rw [List.flatMap_nil, List.append_nil]
  | succ n ih =>
    intro i k x hi hk hx
    obtain ⟨k, rfl⟩ : ∃ m, k = m + 1 := ⟨k - 1, by omega⟩
    have hm := rdF_mem (l := fl) (i := i) (by omega)
    have h1 := hn _ hm
    have h2 := ho _ hm
    have h3 := encT_len (rd_T35 fl (i : Int)).f0 (by omega)
    have h4 := enc_len (x := (rd_T35 fl (i : Int)).f1) ⟨by omega, by omega⟩
    have m1 : num_PutText.f x (rd_T35 fl (i : Int)).f0 = some (x ++ encT (bytesOf (rd_T35 fl (i : Int)).f0)) := if_pos (by omega)
    have m2 : num_Put.f (x ++ encT (bytesOf (rd_T35 fl (i : Int)).f0)) (rd_T35 fl (i : Int)).f1 = some ((x ++ encT (bytesOf (rd_T35 fl (i : Int)).f0)) ++ enc (rd_T35 fl (i : Int)).f1) := if_pos ⟨by rw [List.length_append]; omega, by omega, by omega⟩
    rw [evcode_Put.l1, if_pos (by omega), if_pos (by omega), if_pos (by omega), m1]
    simp only [Option.bind_some]
    rw [m2]
    simp only [Option.bind_some]
    rw [succW i (by omega), ih (i + 1) k _ (by omega) (by omega) (by rw [List.length_append, List.length_append]; omega), drop_rdF fl i (by omega)]
    unfold encFs; rw [List.flatMap_cons]; simp only [List.append_assoc]
theorem evcode_Put_l0 (s t : ByteArray) (tags : List ByteArray) (fl : List S35) (hf : fl.length ≤ 4) (ht : tags.length ≤ 6) (htg : ∀ x ∈ tags, x.size ≤ 49) (hn : ∀ x ∈ fl, x.f0.size ≤ 24) (ho : ∀ x ∈ fl, -1099511627776 ≤ x.f1 ∧ x.f1 ≤ 1099511627776) : ∀ (n i k : Nat) (x : List Int), i + n = tags.length → n + 5 < k → x.length + 60 * n ≤ 140737488347000 → evcode_Put.l0 k x tags (tags.length : Int) (i : Int) s t tags fl = some (x ++ (encTs (tags.drop i) ++ (enc (fl.length : Int) ++ encFs fl)), 0) := by
  intro n
  induction n with
  | zero =>
    intro i k x hi hk hx
    obtain ⟨k, rfl⟩ : ∃ m, k = m + 1 := ⟨k - 1, by omega⟩
    have h4 := enc_len (x := (fl.length : Int)) ⟨by omega, by omega⟩
    have m2 : num_Put.f x (fl.length : Int) = some (x ++ enc (fl.length : Int)) := if_pos ⟨by omega, by omega, by omega⟩
    rw [evcode_Put.l0, if_neg (by omega), m2, List.drop_eq_nil_of_le (by omega)]
    simp only [Option.bind_some]
    have := evcode_Put_l1 s t tags fl hf hn ho fl.length 0 k (x ++ enc (fl.length : Int)) (by omega) (by omega) (by rw [List.length_append]; omega)
    rw [List.drop_zero, List.append_assoc] at this
    exact this
  | succ n ih =>
    intro i k x hi hk hx
    obtain ⟨k, rfl⟩ : ∃ m, k = m + 1 := ⟨k - 1, by omega⟩
    have h1 := htg _ (rdOf_mem (l := tags) (i := i) (by omega))
    have h3 := encT_len (rdOf ByteArray.empty tags (i : Int)) (by omega)
    have m1 : num_PutText.f x (rdOf ByteArray.empty tags (i : Int)) = some (x ++ encT (bytesOf (rdOf ByteArray.empty tags (i : Int)))) := if_pos (by omega)
    rw [evcode_Put.l0, if_pos (by omega), if_pos (by omega), if_pos (by omega), m1]
    simp only [Option.bind_some]
    rw [succW i (by omega), ih (i + 1) k _ (by omega) (by omega) (by rw [List.length_append]; omega), drop_rd tags i (by omega)]
    unfold encTs; rw [List.flatMap_cons]; simp only [List.append_assoc]
def evcode_PutG.f (l0 : List Int) (a1_0 : ByteArray) (a1_1 : ByteArray) (l1_2 : List ByteArray) (l1_3 : List (S35)) : Option (List Int × Int) :=
  if l0.length ≤ 140737488340000 ∧ l1_2.length ≤ 9223372036854775807 ∧ fitE a1_0 a1_1 l1_2 l1_3 = true then some (if mayE a1_0 a1_1 l1_2 l1_3 = 0 then (l0 ++ encEv a1_0 a1_1 l1_2 l1_3, 0) else ([], mayE a1_0 a1_1 l1_2 l1_3)) else none
theorem evcode_PutG.val {l0 : List Int} {a1_0 : ByteArray} {a1_1 : ByteArray} {l1_2 : List ByteArray} {l1_3 : List (S35)} {r1 : List Int} {r2 : Int} (h : evcode_PutG.f l0 a1_0 a1_1 l1_2 l1_3 = some (r1, r2)) : ∃ k, evcode_Put.f k l0 a1_0 a1_1 l1_2 l1_3 = some (r1, r2) := by
  unfold evcode_PutG.f at h
  by_cases hc : l0.length ≤ 140737488340000 ∧ l1_2.length ≤ 9223372036854775807 ∧ fitE a1_0 a1_1 l1_2 l1_3 = true
  · rw [if_pos hc] at h
    rw [← h]
    have m0 : event_May.f a1_0 a1_1 l1_2 l1_3 = some (mayE a1_0 a1_1 l1_2 l1_3) := if_pos hc.2.2
    refine ⟨l1_2.length + 7, ?_⟩
    unfold evcode_Put.f
    rw [m0]
    simp only [Option.bind_some]
    by_cases h0 : mayE a1_0 a1_1 l1_2 l1_3 = 0
    · rw [if_pos h0, if_pos h0]
      have ok := (okE_iff _ _ _ _).1 h0
      have z1 := may_size ok.hs
      have z2 := may_size ok.ht
      have q1 := encT_len a1_0 (by omega)
      have q2 := encT_len a1_1 (by omega)
      have ht6 := ok.ht6
      have q3 := enc_len (x := (l1_2.length : Int)) ⟨by omega, by omega⟩
      have m1 : num_PutText.f l0 a1_0 = some (l0 ++ encT (bytesOf a1_0)) := if_pos (by omega)
      have m2 : num_PutText.f (l0 ++ encT (bytesOf a1_0)) a1_1 = some ((l0 ++ encT (bytesOf a1_0)) ++ encT (bytesOf a1_1)) := if_pos (by rw [List.length_append]; omega)
      have m3 : num_Put.f ((l0 ++ encT (bytesOf a1_0)) ++ encT (bytesOf a1_1)) (l1_2.length : Int) = some (((l0 ++ encT (bytesOf a1_0)) ++ encT (bytesOf a1_1)) ++ enc (l1_2.length : Int)) := if_pos ⟨by rw [List.length_append, List.length_append]; omega, by omega, by omega⟩
      rw [m1]
      simp only [Option.bind_some]
      rw [m2]
      simp only [Option.bind_some]
      rw [m3]
      simp only [Option.bind_some]
      have := evcode_Put_l0 a1_0 a1_1 l1_2 l1_3 ok.hf4 ht6 (fun x hx => tag_size (ok.htag x hx)) (fun x hx => may_size (ok.hname x hx)) ok.hov l1_2.length 0 (l1_2.length + 7) (((l0 ++ encT (bytesOf a1_0)) ++ encT (bytesOf a1_1)) ++ enc (l1_2.length : Int)) (by omega) (by omega) (by rw [List.length_append, List.length_append, List.length_append]; omega)
      rw [List.drop_zero] at this
      refine this.trans ?_
      unfold encEv
      simp only [List.append_assoc]
    · rw [if_neg h0, if_neg h0]
  · rw [if_neg hc] at h; cases h
theorem evcode_PutG.calls (A0 : Option Addr) (c0 : Nat) (l0 : List Int) (a1_0 : ByteArray) (a1_1 : ByteArray) (A1_2 : Option Addr) (c1_2 : Nat) (l1_2 : List ByteArray) (A1_3 : Option Addr) (c1_3 : Nat) (l1_3 : List (S35)) (r1 : List Int) (r2 : Int) (w : World) (hr0 : Kd.C (Kd.int .u8) w A0 l0.length l0) (hc0 : l0.length ≤ c0) (hr1_2 : Kd.C Kd.string w A1_2 l1_2.length l1_2) (hc1_2 : l1_2.length ≤ c1_2) (hr1_3 : Kd.C k35 w A1_3 l1_3.length l1_3) (hc1_3 : l1_3.length ≤ c1_3) (h : evcode_PutG.f l0 a1_0 a1_1 l1_2 l1_3 = some (r1, r2)) :
    Calls Try.prog 10 #[.slice A0 l0.length c0, .agg #[.string a1_0, .string a1_1, .slice A1_2 l1_2.length c1_2, .slice A1_3 l1_3.length c1_3]] w fun e w' => ∃ v0_ : Value, e = .returned (.tuple #[v0_, .int .i64 r2]) ∧ Kd.R (Kd.int .u8) 5 w' w.heap.size (fun _ => True) v0_ r1 ∧ Below w.heap.size w w' := by
  obtain ⟨k, hk⟩ := evcode_PutG.val h
  exact evcode_Put.calls k A0 c0 l0 a1_0 a1_1 A1_2 c1_2 l1_2 A1_3 c1_3 l1_3 r1 r2 w hr0 hc0 hr1_2 hc1_2 hr1_3 hc1_3 hk

end Go.Proofs.Ytmnidohgnnpeiaa.Prt
namespace Go.Proofs.Ytmnidohgnnpeiaa.Prt
open Go.RowKit Go.Proofs.YtmnidohgnnpeiaaW.PrintWords Go.Proofs.YtmnidohgnnpeiaaW.PrintLast Go.Proofs.YtmnidohgnnpeiaaW.PrintMore
attribute [local go_sem] max2_int min2_int max_two min_two max_three min_three max_four min_four   -- for this text's walks alone
set_option linter.unusedVariables false
set_option linter.unusedSimpArgs false

def registrarlaw05_shown.f  : Option (Bool) := (evcode_PutG.f ([] : List Int) (⟨#[115]⟩ : ByteArray) (⟨#[116]⟩ : ByteArray) ([] : List ByteArray) ([] : List (S35))).bind fun bt135 => (if (strOfNums bt135.1).toList = ([2, 115, 2, 116, 0, 0] : List UInt8) then (some (bt135.2 == 0)) else (some false))
set_option maxHeartbeats 8000000 in
set_option maxRecDepth 100000 in
theorem registrarlaw05_shown.calls  (r : Bool) (w : World) (h : registrarlaw05_shown.f  = some r) :
    Calls Try.prog 9 #[] w fun e w' => e = .returned (.bool r) ∧ Below w.heap.size w w' := by
  have hu26 := Try.underlying26
  have HB := Aside0.mk (Below.refl w.heap.size w)
  have H : ((evcode_PutG.f ([] : List Int) (⟨#[115]⟩ : ByteArray) (⟨#[116]⟩ : ByteArray) ([] : List ByteArray) ([] : List (S35))).bind fun bt135 => (if (strOfNums bt135.1).toList = ([2, 115, 2, 116, 0, 0] : List UInt8) then (some (bt135.2 == 0)) else (some false))) = some r := h
  clear h
  replace H := Option.bind_eq_some_iff.mp H
  obtain ⟨⟨t135, t138⟩, A10, H⟩ := H
  replace H : (if (strOfNums t135).toList = ([2, 115, 2, 116, 0, 0] : List UInt8) then (some (t138 == 0)) else (some false)) = some r := H
  have A1 := Aside0.mk A10
  clear A10
  by_cases c2 : (strOfNums t135).toList = ([2, 115, 2, 116, 0, 0] : List UInt8)
  · rw [if_pos c2] at H
    have c2b0 : ((strOfNums t135).toList == ([2, 115, 2, 116, 0, 0] : List UInt8)) = true := beq_iff_eq.mpr c2
    have c2b1 : ((strOfNums t135).toList != ([2, 115, 2, 116, 0, 0] : List UInt8)) = false := bne_eq_false_iff_eq.mpr c2
    clear c2
    obtain rfl := Option.some.inj H
    go_enter Try.func9, Try.ntmps9
    go_wp2_with (first | ((with_reducible refine gate_callee (f := 10) rfl ?_); refine goesL_ (some 5) rfl rfl Try.func10 (by kernel_rfl) rfl #[.slice none 0 0, .agg #[.string (⟨#[115]⟩ : ByteArray), .string (⟨#[116]⟩ : ByteArray), .slice none 0 0, .slice none 0 0]] rfl (by (try simp only [List.map_toArray, List.map_cons, List.map_nil]); first | done | rfl | (simp only [List.length_drop, List.length_take]; rfl)) ?_; (refine (evcode_PutG.calls _ _ ([] : List Int) (⟨#[115]⟩ : ByteArray) (⟨#[116]⟩ : ByteArray) _ _ ([] : List ByteArray) _ _ ([] : List (S35)) t135 t138 _ ?side1 ?side2 ?side3 ?side4 ?side5 ?side6 A1.out).mono ?_); (case side1 => exact Kd.C_nil _ _); (case side2 => exact Nat.le_refl _); (case side3 => exact Kd.C_nil _ _); (case side4 => exact Nat.le_refl _); (case side5 => exact Kd.C_nil _ _); (case side6 => exact Nat.le_refl _); rintro e w3 ⟨v136, rfl, ho0, hb⟩; refine ⟨_, rfl, ?_⟩; have n0_ := Aside0.mk (Kd.R_lower ho0 (below_size (by repeat (first | (with_reducible first | exact HB.out | apply below_alloc | apply pw_below_drewN | apply below_drew1) | exact HB.out)))); have n1_ := Aside0.mk (below_step (by repeat (first | (with_reducible first | exact HB.out | apply below_alloc | apply pw_below_drewN | apply below_drew1) | exact HB.out)) hb); clear HB; have HO137 := n0_; have HB := n1_; clear n0_ n1_; (try clear hb); (try clear hb2); (try clear hk); (try clear hi); (try clear ho0); have hcv4 := own_string (P := Try.prog) Try.underlying22 Try.underlying5 Try.underlying9 (Kd.own_of_R HO137.out)))
    go_ret
    exact ⟨by first | rfl | (simp [errW_none, errW_some] <;> rfl) | (simp [*, errW_none, errW_some] <;> rfl), by repeat (first | (with_reducible first | exact HB.out | apply below_alloc | apply pw_below_drewN | apply below_drew1) | exact HB.out)⟩
  · rw [if_neg c2] at H
    have c2b0 : ((strOfNums t135).toList == ([2, 115, 2, 116, 0, 0] : List UInt8)) = false := beq_eq_false_iff_ne.mpr c2
    have c2b1 : ((strOfNums t135).toList != ([2, 115, 2, 116, 0, 0] : List UInt8)) = true := bne_iff_ne.mpr c2
    obtain rfl := Option.some.inj H
    go_enter Try.func9, Try.ntmps9
    go_wp2_with (first | ((with_reducible refine gate_callee (f := 10) rfl ?_); refine goesL_ (some 5) rfl rfl Try.func10 (by kernel_rfl) rfl #[.slice none 0 0, .agg #[.string (⟨#[115]⟩ : ByteArray), .string (⟨#[116]⟩ : ByteArray), .slice none 0 0, .slice none 0 0]] rfl (by (try simp only [List.map_toArray, List.map_cons, List.map_nil]); first | done | rfl | (simp only [List.length_drop, List.length_take]; rfl)) ?_; (refine (evcode_PutG.calls _ _ ([] : List Int) (⟨#[115]⟩ : ByteArray) (⟨#[116]⟩ : ByteArray) _ _ ([] : List ByteArray) _ _ ([] : List (S35)) t135 t138 _ ?side1 ?side2 ?side3 ?side4 ?side5 ?side6 A1.out).mono ?_); (case side1 => exact Kd.C_nil _ _); (case side2 => exact Nat.le_refl _); (case side3 => exact Kd.C_nil _ _); (case side4 => exact Nat.le_refl _); (case side5 => exact Kd.C_nil _ _); (case side6 => exact Nat.le_refl _); rintro e w5 ⟨v136, rfl, ho0, hb⟩; refine ⟨_, rfl, ?_⟩; have n0_ := Aside0.mk (Kd.R_lower ho0 (below_size (by repeat (first | (with_reducible first | exact HB.out | apply below_alloc | apply pw_below_drewN | apply below_drew1) | exact HB.out)))); have n1_ := Aside0.mk (below_step (by repeat (first | (with_reducible first | exact HB.out | apply below_alloc | apply pw_below_drewN | apply below_drew1) | exact HB.out)) hb); clear HB; have HO137 := n0_; have HB := n1_; clear n0_ n1_; (try clear hb); (try clear hb2); (try clear hk); (try clear hi); (try clear ho0); have hcv6 := own_string (P := Try.prog) Try.underlying22 Try.underlying5 Try.underlying9 (Kd.own_of_R HO137.out)))
    go_ret
    exact ⟨by first | rfl | (simp [errW_none, errW_some] <;> rfl) | (simp [*, errW_none, errW_some] <;> rfl), by repeat (first | (with_reducible first | exact HB.out | apply below_alloc | apply pw_below_drewN | apply below_drew1) | exact HB.out)⟩

end Go.Proofs.Ytmnidohgnnpeiaa.Prt
namespace Go.Proofs.Ytmnidohgnnpeiaa.Prt
open Go.RowKit Go.Proofs.YtmnidohgnnpeiaaW.PrintWords Go.Proofs.YtmnidohgnnpeiaaW.PrintLast Go.Proofs.YtmnidohgnnpeiaaW.PrintMore
attribute [local go_sem] max2_int min2_int max_two min_two max_three min_three max_four min_four   -- for this text's walks alone
set_option linter.unusedVariables false
set_option linter.unusedSimpArgs false

end Go.Proofs.Ytmnidohgnnpeiaa.Prt
namespace Go.Proofs.Ytmnidohgnnpeiaa.Prt
open Go.RowKit Go.Proofs.YtmnidohgnnpeiaaW.PrintWords Go.Proofs.YtmnidohgnnpeiaaW.PrintLast Go.Proofs.YtmnidohgnnpeiaaW.PrintMore Go.Proofs.Ytmnidohgnnpeiaa.Num Go.Proofs.Ytmnidohgnnpeiaa.Nam
set_option linter.unusedVariables false
set_option linter.unusedSimpArgs false

theorem enc_0 : enc 0 = [0] := by unfold enc zz; rw [if_neg (by omega), encN_lt (by decide)]; rfl
theorem enc_1 : enc 1 = [2] := by unfold enc zz; rw [if_neg (by omega), encN_lt (by decide)]; rfl
theorem may_one (c : Int) (h : plainC c = true) (h2 : notFirst c = false) : mayL [c] = true := by
  refine may_of ⟨by simp, by simp⟩ h2 ?_
  rw [lo1 h]; exact lettersOnly_nil
theorem ok_st : OkE (⟨#[115]⟩ : ByteArray) (⟨#[116]⟩ : ByteArray) [] [] :=
  ⟨may_one 115 (by decide) (by decide), may_one 116 (by decide) (by decide), by simp, by simp, fun x hx => by simp at hx, fun x hx => by simp at hx, rfl, rfl, fun x hx => by simp at hx⟩
theorem enc_st : encEv (⟨#[115]⟩ : ByteArray) (⟨#[116]⟩ : ByteArray) [] [] = [2, 115, 2, 116, 0, 0] := by
  show (enc 1 ++ [115]) ++ ((enc 1 ++ [116]) ++ ((enc 0 ++ []) ++ (enc 0 ++ []))) = _
  rw [enc_0, enc_1]; rfl
theorem putG_ok {l0 : List Int} {s t : ByteArray} {a : List ByteArray} {f : List S35} (hl : l0.length ≤ 140737488340000) (ha : a.length ≤ 9223372036854775807) (hf : fitE s t a f = true) :
    evcode_PutG.f l0 s t a f = some (if mayE s t a f = 0 then (l0 ++ encEv s t a f, 0) else ([], mayE s t a f)) := if_pos ⟨hl, ha, hf⟩
theorem shown05 : registrarlaw05_shown.f = some true := by
  unfold registrarlaw05_shown.f
  rw [putG_ok (by decide) (by decide) (fitE_iff.2 ⟨by decide, by decide, fun x hx => by simp at hx, fun x hx => by simp at hx, by decide⟩), if_pos ((okE_iff _ _ _ _).2 ok_st), enc_st]
  simp only [Option.bind_some, List.nil_append]
  rw [if_pos (by rw [strOfNums_toList]; rfl)]; rfl
end Go.Proofs.Ytmnidohgnnpeiaa.Prt
namespace Go.Proofs.Ytmnidohgnnpeiaa.Prt
open Go.RowKit Go.Proofs.YtmnidohgnnpeiaaW.PrintWords Go.Proofs.YtmnidohgnnpeiaaW.PrintLast Go.Proofs.YtmnidohgnnpeiaaW.PrintMore Go.Proofs.Ytmnidohgnnpeiaa.Num Go.Proofs.Ytmnidohgnnpeiaa.Nam
set_option linter.unusedVariables false
set_option linter.unusedSimpArgs false

theorem numOf_good {l : List Int} {b : Bool} (hb : isBytes l) (h : badOf l b = false) : b = false ∧ l = enc (numOf l) ++ aft l ∧ i64 (numOf l) := by
  unfold badOf at h
  cases hd : dec l with
  | none => rw [hd] at h; simp at h
  | some q =>
    obtain ⟨x, r⟩ := q
    rw [hd] at h
    obtain ⟨h1, h2⟩ := dec_sound hb hd
    have e1 : numOf l = x := by unfold numOf; rw [hd]
    have e2 : aft l = r := by unfold aft; rw [hd]
    rw [e1, e2]
    exact ⟨by simpa using h, h1, h2⟩
theorem textOf_good {l : List Int} {b : Bool} (hb : isBytes l) (h : badT l b = false) : b = false ∧ l = encT (bytesOf (textOf l)) ++ aftT l := by
  unfold badT at h
  cases hd : decT l with
  | none => rw [hd] at h; simp at h
  | some q =>
    obtain ⟨x, r⟩ := q
    rw [hd] at h
    obtain ⟨h1, h2⟩ := decT_sound hb hd
    have hx : isBytes x := by rw [h1] at hb; unfold encT at hb; exact (isBytes_append.1 (isBytes_append.1 hb).1).2
    have e1 : textOf l = strOfNums x := by unfold textOf; rw [hd]
    have e2 : aftT l = r := by unfold aftT; rw [hd]
    rw [e1, e2, bytesOf_strOfNums hx]
    exact ⟨by simpa using h, h1⟩
theorem encTs_snoc (a : List ByteArray) (x : ByteArray) : encTs (a ++ [x]) = encTs a ++ encT (bytesOf x) := by unfold encTs; simp
theorem encFs_snoc (a : List S35) (x : S35) : encFs (a ++ [x]) = encFs a ++ (encT (bytesOf x.f0) ++ enc x.f1) := by unfold encFs; simp
theorem takeTs_good (l : List Int) (b : Bool) (hb : isBytes l) : ∀ n, (takeTs n l b).2.2 = false → b = false ∧ l = encTs (takeTs n l b).1 ++ (takeTs n l b).2.1
  | 0, h => ⟨h, rfl⟩
  | n + 1, h => by
    simp only [takeTs] at h ⊢
    obtain ⟨h1, h2⟩ := textOf_good (takeTs_left l b hb n).1 h
    obtain ⟨h3, h4⟩ := takeTs_good l b hb n h1
    refine ⟨h3, ?_⟩
    rw [encTs_snoc, List.append_assoc, ← h2]; exact h4
theorem takeFs_good (l : List Int) (b : Bool) (hb : isBytes l) : ∀ n, (takeFs n l b).2.2 = false → b = false ∧ l = encFs (takeFs n l b).1 ++ (takeFs n l b).2.1
  | 0, h => ⟨h, rfl⟩
  | n + 1, h => by
    simp only [takeFs] at h ⊢
    have hy := (takeFs_left l b hb n).1
    obtain ⟨h1, h2, _⟩ := numOf_good (aftT_bytes hy) h
    obtain ⟨h3, h4⟩ := textOf_good hy h1
    obtain ⟨h5, h6⟩ := takeFs_good l b hb n h3
    refine ⟨h5, ?_⟩
    rw [encFs_snoc, List.append_assoc, List.append_assoc, ← h2, ← h4]; exact h6
/-- What is taken without an error stands there as bytes. -/
theorem takeE_good {l : List Int} {b : Bool} (hb : isBytes l) {x : S26} {l' : List Int} {b' : Bool} (h : takeE l b = (x, 0, l', b')) :
    b = false ∧ b' = false ∧ OkE x.f0 x.f1 x.f2 x.f3 ∧ l = encEv x.f0 x.f1 x.f2 x.f3 ++ l' := by
  unfold takeE at h
  simp only at h
  split at h
  · simp at h
  rename_i hn
  split at h
  · simp at h
  rename_i hm
  split at h
  · simp at h
  rename_i hr
  simp only [not_or, Bool.not_eq_true, ne_eq, Decidable.not_not] at hr
  obtain ⟨hr1, hr2⟩ := hr
  have hx := congrArg (fun z => z.1) h
  have hl := congrArg (fun z => z.2.2.1) h
  have hb2 := congrArg (fun z => z.2.2.2) h
  simp only at hx hl hb2
  clear h
  subst hx; subst hl; subst hb2
  refine ⟨?_, hr1, (okE_iff _ _ _ _).1 hr2, ?_⟩
  all_goals
    have y1 := aftT_bytes hb
    have y2 := aftT_bytes y1
    have y3 := aft_bytes y2
    obtain ⟨g1, g2⟩ := takeFs_good _ _ (aft_bytes (takeTs_left _ _ y3 _).1) _ hr1
    obtain ⟨g3, g4, g4'⟩ := numOf_good (takeTs_left _ _ y3 _).1 g1
    obtain ⟨g5, g6⟩ := takeTs_good _ _ y3 _ g3
    obtain ⟨g7, g8, g8'⟩ := numOf_good y2 g5
    obtain ⟨g9, g10⟩ := textOf_good y1 g7
    obtain ⟨g11, g12⟩ := textOf_good hb g9
  · exact g11
  · have e1 : ((takeTs (numOf (aftT (aftT l))).toNat (aft (aftT (aftT l))) (badOf (aftT (aftT l)) (badT (aftT l) (badT l b)))).1.length : Int) = numOf (aftT (aftT l)) := by rw [takeTs_len]; omega
    have e2 : ((takeFs (numOf (takeTs (numOf (aftT (aftT l))).toNat (aft (aftT (aftT l))) (badOf (aftT (aftT l)) (badT (aftT l) (badT l b)))).2.1).toNat (aft (takeTs (numOf (aftT (aftT l))).toNat (aft (aftT (aftT l))) (badOf (aftT (aftT l)) (badT (aftT l) (badT l b)))).2.1) (badOf (takeTs (numOf (aftT (aftT l))).toNat (aft (aftT (aftT l))) (badOf (aftT (aftT l)) (badT (aftT l) (badT l b)))).2.1 (takeTs (numOf (aftT (aftT l))).toNat (aft (aftT (aftT l))) (badOf (aftT (aftT l)) (badT (aftT l) (badT l b)))).2.2)).1.length : Int) = numOf (takeTs (numOf (aftT (aftT l))).toNat (aft (aftT (aftT l))) (badOf (aftT (aftT l)) (badT (aftT l) (badT l b)))).2.1 := by rw [takeFs_len]; omega
    unfold encEv
    simp only
    rw [e1, e2]
    simp only [List.append_assoc]
    rw [← g2, ← g4, ← g6, ← g8, ← g10]
    exact g12
theorem encEv_pos (s t : ByteArray) (a : List ByteArray) (f : List S35) : 1 ≤ (encEv s t a f).length := by
  unfold encEv encT
  have := enc_pos ((bytesOf s).length : Int)
  simp only [List.length_append]; omega
theorem takeE_code (l : List Int) (b : Bool) : (takeE l b).2.1 = 0 ∨ (takeE l b).2.1 = 2 ∧ (takeE l b).1 = z26 := by
  unfold takeE
  simp only
  split
  · exact .inr ⟨rfl, rfl⟩
  split
  · exact .inr ⟨rfl, rfl⟩
  split
  · exact .inr ⟨rfl, rfl⟩
  · exact .inl rfl
/-- All events taken. -/
def takeAll : Nat → List Int → List S26 → List S26 × Int
  | 0, _, acc => (acc, 0)
  | k + 1, l, acc => if l.length = 0 then (acc, 0) else if (takeE l false).2.1 = 0 then takeAll k (takeE l false).2.2.1 (acc ++ [(takeE l false).1]) else ([], (takeE l false).2.1)
end Go.Proofs.Ytmnidohgnnpeiaa.Prt
namespace Go.Proofs.Ytmnidohgnnpeiaa.Prt
open Go.RowKit Go.Proofs.YtmnidohgnnpeiaaW.PrintWords Go.Proofs.YtmnidohgnnpeiaaW.PrintLast Go.Proofs.YtmnidohgnnpeiaaW.PrintMore Go.Proofs.Ytmnidohgnnpeiaa.Num Go.Proofs.Ytmnidohgnnpeiaa.Nam
set_option linter.unusedVariables false
set_option linter.unusedSimpArgs false

theorem info_event : (Try.prog.info? 26).map (fun i => (i.zero, i.size, i.bytes)) = some (some (.agg #[.string ⟨#[]⟩, .string ⟨#[]⟩, .slice none 0 0, .slice none 0 0]), 4, 80) := by kernel_rfl
/-- A row of events across a call that turns a reader alone. -/
theorem S_turn {w w1 : World} {base g t : Nat} {v : Value} {xs : List S26} {cells : Array Value} (h : Kd.S k26 26 w base (fun _ => True) v xs) (hb : w.heap[g]? = some (.cells cells t (0, 0))) (ht : ∀ q, q ∈ 26 :: (k26).E → q ≠ t) (hk : KeepBut w w1 g none) : Kd.S k26 26 w1 base (fun k => k < w.heap.size) v xs :=
  Kd.S_mono (Kd.S_keep (Kd.S_bound (Kd.S_types h hb ht)) hk (fun k hk => hk.1.2)) (fun k hk => hk.2.2.1)
theorem takeAll_fuel : ∀ (k : Nat) (l : List Int) (acc : List S26), l.length = 0 → takeAll (k + 1) l acc = (acc, 0) := fun k l acc h => by rw [takeAll, if_pos h]
theorem all_calls (A0 : Option Addr) (c0 : Nat) (l0 : List Int) (w : World) (hr0 : Kd.C (Kd.int .u8) w A0 l0.length l0) (hc0 : l0.length ≤ c0) (hby : isBytes l0) (hlen : l0.length ≤ 1000000000000) (r1 : List S26) (r2 : Int) (h : takeAll (l0.length + 1) l0 [] = (r1, r2)) :
    Calls Try.prog 18 #[.slice A0 l0.length c0] w fun e w' => ∃ v0_ : Value, e = .returned (.tuple #[v0_, .int .i64 r2]) ∧ Kd.S k26 26 w' w.heap.size (fun _ => True) v0_ r1 ∧ Below w.heap.size w w' := by
  have HNR := Aside0.mk (newReader_calls A0 c0 l0 w hr0 hc0)
  have HBY := Aside0.mk hby
  have HH := Aside0.mk h
  clear hr0 hc0 hby h
  have hu26 := Try.underlying26
  go_enter Try.func18, Try.ntmps18
  go_wp2_with fail
  refine HNR.out.mono ?_
  rintro e w1 ⟨g, rfl, hI, hb, hg⟩
  have HI := Aside0.mk hI
  have HB := Aside0.mk hb
  have HG := Aside0.mk hg
  clear hI hb hg HNR
  go_wp2_with fail
  go_loopg [5] (l0.length + 1) (fun k v5 w' => ∃ (l : List Int) (acc : List S26), Aside0 (takeAll k l acc = (r1, r2)) ∧ Aside0 (l.length < k) ∧ Aside0 (acc.length + l.length ≤ l0.length) ∧ Aside0 (isBytes l) ∧ Aside0 (Rd 60 (fun k => k < w.heap.size) w' g l false) ∧ Aside0 (Kd.S k26 26 w' w.heap.size (fun _ => True) v5 acc) ∧ Aside0 (Below w.heap.size w w'))
  case atStart => exact ⟨l0, [], HH, ⟨by omega⟩, ⟨by simp⟩, HBY, HI, ⟨Kd.S_nil _ _ _ _ _⟩, HB⟩
  case round =>
    clear HH HI HB
    obtain ⟨l, acc, HH, HK, HL, HBY, HI, HS, HB⟩ := hrel
    obtain ⟨A, c, e5, _, _⟩ := Kd.S_reads HS.out
    subst e5
    go_wp2_with fail
    refine (left_calls _ wr g l false HI.out).mono ?_
    rintro e w2 ⟨rfl, rfl⟩
    obtain ⟨k, rfl⟩ : ∃ m, gk = m + 1 := ⟨gk - 1, by have := HK.out; omega⟩
    by_cases hl : l.length = 0
    · have hd : decide ((0 : Int) < (l.length : Int)) = false := decide_eq_false (by omega)
      have HE := Aside0.mk ((takeAll_fuel k l acc hl).symm.trans HH.out)
      go_wp2
      go_ret2
      have he := HE.out
      simp only [Prod.mk.injEq] at he
      obtain ⟨rfl, rfl⟩ := he
      exact ⟨_, rfl, HS.out, HB.out⟩
    have hd : decide ((0 : Int) < (l.length : Int)) = true := decide_eq_true (by omega)
    obtain ⟨x, c1, l', b', hx⟩ : ∃ x c1 l' b', takeE l false = (x, c1, l', b') := ⟨_, _, _, _, rfl⟩
    have HX := Aside0.mk hx
    have HT := Aside0.mk (take_walk _ wr g l false HI.out HBY.out (fun k hk => Nat.lt_of_lt_of_le hk HB.out.size) x c1 l' b' hx)
    clear hx
    go_wp2_with fail
    refine HT.out.mono ?_
    rintro e w2 ⟨v2, v3, rfl, h2, h3, hI, hby, hb, hk⟩
    have HS2 : Aside0 (Kd.S k26 26 w2 w.heap.size (fun k => k < wr.heap.size) (.slice A acc.length c) acc) := ⟨by
      obtain ⟨A', c', hblk, _⟩ := HI.out
      exact S_turn HS.out hblk (by decide) hk⟩
    have H2 := Aside0.mk h2
    have H3 := Aside0.mk h3
    have HI2 := Aside0.mk hI
    have HBY2 := Aside0.mk hby
    have HB2 := Aside0.mk (HB.out.trans (hb.mono HG.out))
    have HSZ := Aside0.mk hk.1
    have HWR := Aside0.mk HB.out.size
    have HBYL := Aside0.mk HBY.out
    clear h2 h3 hI hby hb hk HI HS HB HBY HT
    obtain ⟨A2, c2, e2⟩ := Kd.R_slice H2.out
    subst e2
    obtain ⟨A3, c3, e3⟩ := Kd.R_slice H3.out
    subst e3
    go_upto_region 5 with (first | ((with_reducible refine gate_dst (N := 6) rfl ?_); refine box_event ?hg (N := 6) ?hd (cs := #[.string (⟨#[]⟩ : ByteArray), .string (⟨#[]⟩ : ByteArray), .slice none 0 0, .slice none 0 0]) (t := 26) ?hr ?_; (case hd => rfl); (case hg => rfl); (case hr => first | (go_simp; done) | (go_simp; rfl)); intro B hgB w3 hbox hb; have HBX := Aside0.mk hbox; have HBN := Aside0.mk hgB; have n1_ := Aside0.mk (Kd.S_below HS2.out hb); have n2_ := Aside0.mk (Kd.R_below H2.out hb); have n3_ := Aside0.mk (Kd.R_below H3.out hb); have n4_ := Aside0.mk (HI2.out.below hb); have n5_ := Aside0.mk (below_step HB2.out hb); have HGB := Aside0.mk (show g ≠ B by have := HI2.out.lt; omega); clear HS2 H2 H3 HI2 HB2 hbox hgB hb; have HS2 := n1_; have H2 := n2_; have H3 := n3_; have HI2 := n4_; have HB2 := n5_; clear n1_ n2_ n3_ n4_ n5_; have hq0 := blk_cell HBX.out 0; have hq1 := blk_cell HBX.out 1; have hq2 := blk_cell HBX.out 2; have hq3 := blk_cell HBX.out 3; have hf0 := blk_frozen HBX.out 0; have hf1 := blk_frozen HBX.out 1; have hf2 := blk_frozen HBX.out 2; have hf3 := blk_frozen HBX.out 3))
    have HBG : Aside0 (wr.heap.size ≤ B ∧ w.heap.size ≤ B) := ⟨by have := HBN.out; have := HSZ.out; have := HWR.out; omega⟩
    have n1_ := Aside0.mk (Kd.S_far (p := ⟨B, 3, none⟩) (Kd.S_far (p := ⟨B, 2, none⟩) (Kd.S_far (p := ⟨B, 1, none⟩) (Kd.S_far (p := ⟨B, 0, none⟩) HS2.out (fun k hk => by have := HBG.out.1; show k ≠ B; omega) (.string x.f0)) (fun k hk => by have := HBG.out.1; show k ≠ B; omega) (.string x.f1)) (fun k hk => by have := HBG.out.1; show k ≠ B; omega) (.slice A2 x.f2.length c2)) (fun k hk => by have := HBG.out.1; show k ≠ B; omega) (.slice A3 x.f3.length c3))
    have n2_ := Aside0.mk (R_set4 H2.out HBX.out (by decide) (.string x.f0) (.string x.f1) (.slice A2 x.f2.length c2) (.slice A3 x.f3.length c3))
    have n3_ := Aside0.mk (R_set4 H3.out HBX.out (by decide) (.string x.f0) (.string x.f1) (.slice A2 x.f2.length c2) (.slice A3 x.f3.length c3))
    have n4_ := Aside0.mk ((((HI2.out.kept ((KeepBut.refl _ B none).set_ 0 (.string x.f0)) HGB.out (by have := HBG.out.2; omega)).kept ((KeepBut.refl _ B none).set_ 1 (.string x.f1)) HGB.out (by have := HBG.out.2; omega)).kept ((KeepBut.refl _ B none).set_ 2 (.slice A2 x.f2.length c2)) HGB.out (by have := HBG.out.2; omega)).kept ((KeepBut.refl _ B none).set_ 3 (.slice A3 x.f3.length c3)) HGB.out (by have := HBG.out.2; omega))
    have n5_ := Aside0.mk ((((HB2.out.setCell (p := ⟨B, 0, none⟩) HBG.out.2 (.string x.f0)).setCell (p := ⟨B, 1, none⟩) HBG.out.2 (.string x.f1)).setCell (p := ⟨B, 2, none⟩) HBG.out.2 (.slice A2 x.f2.length c2)).setCell (p := ⟨B, 3, none⟩) HBG.out.2 (.slice A3 x.f3.length c3))
    have n6_ := Aside0.mk (blk_put (cs' := #[.string x.f0, .string x.f1, .slice A2 x.f2.length c2, .slice A3 x.f3.length c3]) (blk_put (cs' := #[.string x.f0, .string x.f1, .slice A2 x.f2.length c2, .slice none 0 0]) (blk_put (cs' := #[.string x.f0, .string x.f1, .slice none 0 0, .slice none 0 0]) (blk_put (cs' := #[.string x.f0, .string ⟨#[]⟩, .slice none 0 0, .slice none 0 0]) HBX.out 0 (.string x.f0) rfl) 1 (.string x.f1) rfl) 2 (.slice A2 x.f2.length c2) rfl) 3 (.slice A3 x.f3.length c3) rfl)
    clear HS2 H2 H3 HI2 HB2 HBX hq0 hq1 hq2 hq3 hf0 hf1 hf2 hf3
    generalize (((w3.setCell ⟨B, 0, none⟩ (.string x.f0)).setCell ⟨B, 1, none⟩ (.string x.f1)).setCell ⟨B, 2, none⟩ (.slice A2 x.f2.length c2)).setCell ⟨B, 3, none⟩ (.slice A3 x.f3.length c3) = w4 at n1_ n2_ n3_ n4_ n5_ n6_ ⊢
    by_cases hc1 : c1 = 0
    · have hbn : (c1 != 0) = false := bne_eq_false_iff_eq.mpr hc1
      have HC1 := Aside0.mk hc1
      have hq0 := blk_cell n6_.out 0
      have hq1 := blk_cell n6_.out 1
      have hq2 := blk_cell n6_.out 2
      have hq3 := blk_cell n6_.out 3
      clear hc1
      have HGD := Aside0.mk (takeE_good HBYL.out (by rw [HX.out, HC1.out] : takeE l false = (x, 0, l', b')))
      have HLEN : Aside0 (acc.length ≤ 1000000000000) := ⟨by have := HL.out; omega⟩
      have hlen2 := HLEN.out
      have HAP : Aside0 (∀ k, wr.heap.size ≤ k → True ∧ some k ≠ (Value.slice A acc.length c).ownBlock) := ⟨fun k hk => ⟨trivial, fun e_ => by have h_ := (Kd.S_R n1_.out).1 k e_.symm; omega⟩⟩
      have HAQ : Aside0 (Kd.S k26 26 w4 w.heap.size (fun k => True ∧ ¬ wr.heap.size ≤ k) (.slice A acc.length c) acc) := ⟨Kd.S_mono n1_.out (fun k hk => ⟨trivial, by omega⟩)⟩
      have HMK : Aside0 ((k26).M w4 w.heap.size (fun k => wr.heap.size ≤ k) x [.string x.f0, .string x.f1, .slice A2 x.f2.length c2, .slice A3 x.f3.length c3]) := ⟨k26_mkM _ _ _ x (Kd.R_lower (Kd.R_mono (Kd.R_bound n2_.out) (fun k hk => hk.2.1)) HWR.out) (Kd.R_lower (Kd.R_mono (Kd.R_bound n3_.out) (fun k hk => hk.2.1)) HWR.out)⟩
      go_wp2_with (first | ((with_reducible refine gate_builtin (b := .append) (xs := #[.tmp 21, .tmp 23]) rfl ?_); at_builtin; refine Kd.S_append k26 (w0 := w) w.heap.size rfl (.tmp 21) (.tmp 23) 46 26 (.agg #[.string ⟨#[]⟩, .string ⟨#[]⟩, .slice none 0 0, .slice none 0 0]) 80 rfl Try.underlying46 info_event rfl (by decide) (by omega) (.slice A acc.length c) acc x [.string x.f0, .string x.f1, .slice A2 x.f2.length c2, .slice A3 x.f3.length c3] (fun _ => True) (fun k => wr.heap.size ≤ k) rfl rfl HMK.out HAP.out (fun _ _ => trivial) HAQ.out n5_.out n5_.out.size (by omega) ?_; intro v w5 ho hb hg hat; have HO := Aside0.mk ho; have HBl := Aside0.mk hb; have HGR := Aside0.mk hg; clear ho hb hg hat))
      have hl2 : l'.length < l.length := by
        have h := congrArg List.length HGD.out.2.2.2
        have := encEv_pos x.f0 x.f1 x.f2 x.f3
        rw [List.length_append] at h; omega
      have HL2 := Aside0.mk hl2
      clear hl2
      go_roundg k
      case measure => omega
      case rel =>
        refine ⟨l', acc ++ [x], ⟨?_⟩, ⟨by have := HL2.out; have := HK.out; omega⟩, ⟨by have := HL2.out; have := HL.out; rw [List.length_append, List.length_singleton]; omega⟩, HBY2, ⟨?_⟩, HO, HBl⟩
        · have h := HH.out
          rw [takeAll, if_neg hl, HX.out] at h
          simp only at h
          rw [if_pos HC1.out] at h
          exact h
        · have h := n4_.out.grown HGR.out (by obtain ⟨A', c', hblk, _⟩ := n4_.out; exact Kd.S_ne n1_.out hblk (by decide)) (fun k hk => ne_base (Kd.S_base n1_.out) hk)
          rw [HGD.out.2.1] at h
          exact h
    · have hbn : (c1 != 0) = true := bne_iff_ne.mpr hc1
      have HE : Aside0 (r1 = [] ∧ r2 = c1) := ⟨by
        have h := HH.out
        rw [takeAll, if_neg hl, HX.out] at h
        simp only at h
        rw [if_neg hc1] at h
        simp only [Prod.mk.injEq] at h
        exact ⟨h.1.symm, h.2.symm⟩⟩
      clear hc1
      go_wp2
      go_ret2
      obtain ⟨rfl, rfl⟩ := HE.out
      exact ⟨_, rfl, Kd.S_nil _ _ _ _ _, n5_.out⟩
end Go.Proofs.Ytmnidohgnnpeiaa.Prt
namespace Go.Proofs.Ytmnidohgnnpeiaa.Num
open Go.RowKit Go.Proofs.YtmnidohgnnpeiaaW.PrintWords Go.Proofs.YtmnidohgnnpeiaaW.PrintLast Go.Proofs.YtmnidohgnnpeiaaW.PrintMore Go.Proofs.Ytmnidohgnnpeiaa.Prt Go.Proofs.Ytmnidohgnnpeiaa.Nam
set_option linter.unusedVariables false
set_option linter.unusedSimpArgs false

/-- The reference's reader, an event's parts in block E; what the call w0 found is kept, but for the reader. -/
structure Tr (w0 w : World) (P : Nat → Prop) (g E : Nat) (l : List Int) (bad : Bool) (s t : ByteArray) (v2 : Value) (tags : List ByteArray) (v3 : Value) (fl : List S35) : Prop where
  rd : Rd 44 P w g l bad
  hE : w.heap[E]? = some (.cells #[.string s, .string t, v2, v3] 26 (0, 0))
  r2 : Kd.string.R 9 w w0.heap.size (fun _ => True) v2 tags
  r3 : k35.R 35 w w0.heap.size (fun _ => True) v3 fl
  keep : KeepBut w0 w g none
  below : Below g w0 w
  gN : g < w0.heap.size
  NE : w0.heap.size ≤ E
  PN : ∀ k, P k → k < w0.heap.size
  by_ : isBytes l
section
variable {w0 w w1 : World} {P : Nat → Prop} {g E : Nat} {l l' : List Int} {bad bad' : Bool} {s t : ByteArray} {v2 v3 : Value} {tags : List ByteArray} {fl : List S35}
theorem Tr.read (h : Tr w0 w P g E l bad s t v2 tags v3 fl) (hr : Rd 44 P w1 g l' bad') (hb : Below g w w1) (hk : KeepBut w w1 g none) (hy : isBytes l') : Tr w0 w1 P g E l' bad' s t v2 tags v3 fl :=
  ⟨hr, hk.blk h.hE (by have := h.gN; have := h.NE; omega) (by simp), R_off' h.r2 h.gN hk, R_off' h.r3 h.gN hk, h.keep.trans hk (.inl rfl), h.below.trans hb, h.gN, h.NE, h.PN, hy⟩
theorem Tr.up (h : Tr w0 w P g E l bad s t v2 tags v3 fl) (hb : Below w.heap.size w w1) : Tr w0 w1 P g E l bad s t v2 tags v3 fl :=
  ⟨h.rd.below hb, blk_below h.hE hb, Kd.R_below h.r2 hb, Kd.R_below h.r3 hb, h.keep.trans (KeepBut.of_below hb g none) (.inl rfl), h.below.trans (hb.mono (Nat.le_of_lt h.rd.lt)), h.gN, h.NE, h.PN, h.by_⟩
theorem Tr.alloc (h : Tr w0 w P g E l bad s t v2 tags v3 fl) (o : Obj) : Tr w0 (w.alloc o) P g E l bad s t v2 tags v3 fl := h.up (below_alloc (Below.refl _ _) o)
theorem Tr.drew (h : Tr w0 w P g E l bad s t v2 tags v3 fl) : Tr w0 w.drew P g E l bad s t v2 tags v3 fl := h.up (below_drew (Below.refl _ _))
theorem Tr.notP (h : Tr w0 w P g E l bad s t v2 tags v3 fl) : ¬ P E := fun hp => by have := h.PN E hp; have := h.NE; omega
theorem Tr.set1 (h : Tr w0 w P g E l bad s t v2 tags v3 fl) (t' : ByteArray) : Tr w0 (w.setCell ⟨E, 1, none⟩ (.string t')) P g E l bad s t' v2 tags v3 fl :=
  ⟨h.rd.kept ((KeepBut.refl w E none).set_ 1 _) (by have := h.gN; have := h.NE; omega) h.notP, by simpa using blk_set h.hE 1 (.string t'), R_set h.r2 h.hE (by decide) 1 _, R_set h.r3 h.hE (by decide) 1 _, keep_far h.keep h.NE _, h.below.setCell (p := ⟨E, 1, none⟩) (Nat.le_trans (Nat.le_of_lt h.gN) h.NE) _, h.gN, h.NE, h.PN, h.by_⟩
theorem Tr.side (h : Tr w0 w P g E l bad s t v2 tags v3 fl) {B : Nat} (hB : w0.heap.size ≤ B) (h1 : B ≠ E) (h3 : some B ≠ v2.ownBlock) (h4 : some B ≠ v3.ownBlock) (i : Nat) (u : Value) : Tr w0 (w.setCell ⟨B, i, none⟩ u) P g E l bad s t v2 tags v3 fl :=
  ⟨h.rd.kept ((KeepBut.refl w B none).set_ i _) (by have := h.gN; omega) (fun hp => by have := h.PN B hp; omega), blk_far h.hE (Ne.symm h1) _, Kd.R_mono (Kd.R_far (p := ⟨B, i, none⟩) (Kd.R_far1 h.r2 rfl h3) (fun k hk => hk.2) u) (fun _ _ => trivial), Kd.R_mono (Kd.R_far (p := ⟨B, i, none⟩) (Kd.R_far1 h.r3 rfl h4) (fun k hk => hk.2) u) (fun _ _ => trivial),
    keep_far h.keep hB _, h.below.setCell (p := ⟨B, i, none⟩) (Nat.le_trans (Nat.le_of_lt h.gN) hB) _, h.gN, h.NE, h.PN, h.by_⟩
/-- A tag behind the others, and stored. -/
theorem Tr.push2 (h : Tr w0 w P g E l bad s t v2 tags v3 fl) {v : Value} {x : ByteArray} (hr : Kd.string.R 9 w1 w0.heap.size (fun _ => True) v (tags ++ [x])) (hb : Below w0.heap.size w w1) (hg : w.grownBy w1 v2.ownBlock) :
    Tr w0 (w1.setCell ⟨E, 2, none⟩ v) P g E l bad s t v (tags ++ [x]) v3 fl := by
  have base := Kd.R_base h.r2
  have hE1 : w1.heap[E]? = some (.cells #[.string s, .string t, v2, v3] 26 (0, 0)) := blk_grown h.hE hg (Kd.R_ne h.r2 h.hE (by decide))
  have r31 : k35.R 35 w1 w0.heap.size (fun _ => True) v3 fl := Kd.R_mono (Kd.R_grown (Kd.R_apart' h.r3 (Kd.R_typed h.r2) (by decide)) hg (fun k hk => hk.2)) (fun _ _ => trivial)
  have rd1 := h.rd.grown hg (ne_base base h.gN) (fun k hk => ne_base base (h.PN k hk))
  exact ⟨rd1.kept ((KeepBut.refl w1 E none).set_ 2 _) (by have := h.gN; have := h.NE; omega) h.notP, by simpa using blk_set hE1 2 v, R_set hr hE1 (by decide) 2 _, R_set r31 hE1 (by decide) 2 _,
    keep_far (keep_grown h.keep hg base) h.NE _, (h.below.trans (hb.mono (Nat.le_of_lt h.gN))).setCell (p := ⟨E, 2, none⟩) (Nat.le_trans (Nat.le_of_lt h.gN) h.NE) _, h.gN, h.NE, h.PN, h.by_⟩
/-- A field behind the others, and stored. -/
theorem Tr.push3 (h : Tr w0 w P g E l bad s t v2 tags v3 fl) {v : Value} {x : S35} (hr : k35.R 35 w1 w0.heap.size (fun _ => True) v (fl ++ [x])) (hb : Below w0.heap.size w w1) (hg : w.grownBy w1 v3.ownBlock) :
    Tr w0 (w1.setCell ⟨E, 3, none⟩ v) P g E l bad s t v2 tags v (fl ++ [x]) := by
  have base := Kd.R_base h.r3
  have hE1 : w1.heap[E]? = some (.cells #[.string s, .string t, v2, v3] 26 (0, 0)) := blk_grown h.hE hg (Kd.R_ne h.r3 h.hE (by decide))
  have r21 : Kd.string.R 9 w1 w0.heap.size (fun _ => True) v2 tags := Kd.R_mono (Kd.R_grown (Kd.R_apart' h.r2 (Kd.R_typed h.r3) (by decide)) hg (fun k hk => hk.2)) (fun _ _ => trivial)
  have rd1 := h.rd.grown hg (ne_base base h.gN) (fun k hk => ne_base base (h.PN k hk))
  exact ⟨rd1.kept ((KeepBut.refl w1 E none).set_ 3 _) (by have := h.gN; have := h.NE; omega) h.notP, by simpa using blk_set hE1 3 v, R_set r21 hE1 (by decide) 3 _, R_set hr hE1 (by decide) 3 _,
    keep_far (keep_grown h.keep hg base) h.NE _, (h.below.trans (hb.mono (Nat.le_of_lt h.gN))).setCell (p := ⟨E, 3, none⟩) (Nat.le_trans (Nat.le_of_lt h.gN) h.NE) _, h.gN, h.NE, h.PN, h.by_⟩
end
/-- What a call leaves that was handed the reference's reader. -/
def OutR (w w' : World) (P : Nat → Prop) (g : Nat) (l : List Int) (b : Bool) : Prop := Rd 44 P w' g l b ∧ Below g w w' ∧ KeepBut w w' g none
theorem OutR.of_Tr {w w0 w' : World} {P : Nat → Prop} {g E : Nat} {l : List Int} {bad : Bool} {s t : ByteArray} {v2 v3 : Value} {tags : List ByteArray} {fl : List S35} (h : Tr w0 w' P g E l bad s t v2 tags v3 fl) (hB : Below w.heap.size w w0) (hg : g < w.heap.size) : OutR w w' P g l bad :=
  ⟨h.rd, (hB.mono (Nat.le_of_lt hg)).trans h.below, (KeepBut.of_below hB g none).trans h.keep (.inl rfl)⟩
theorem OutR.set {w w' : World} {P : Nat → Prop} {g : Nat} {l : List Int} {bad : Bool} (h : OutR w w' P g l bad) (hg : g < w.heap.size) (hP : ∀ k, P k → k < w.heap.size) {Q : Nat} (hQ : w.heap.size ≤ Q) (i : Nat) (u : Value) : OutR w (w'.setCell ⟨Q, i, none⟩ u) P g l bad :=
  ⟨h.1.kept ((KeepBut.refl w' Q none).set_ i _) (by omega) (fun hp => by have := hP Q hp; omega), h.2.1.setCell (p := ⟨Q, i, none⟩) (by show g ≤ Q; omega) _, keep_far h.2.2 hQ _⟩
end Go.Proofs.Ytmnidohgnnpeiaa.Num
namespace Go.Proofs.Ytmnidohgnnpeiaa.Num
open Go.RowKit Go.Proofs.YtmnidohgnnpeiaaW.PrintWords Go.Proofs.YtmnidohgnnpeiaaW.PrintLast Go.Proofs.YtmnidohgnnpeiaaW.PrintMore Go.Proofs.Ytmnidohgnnpeiaa.Prt Go.Proofs.Ytmnidohgnnpeiaa.Nam
set_option linter.unusedVariables false
set_option linter.unusedSimpArgs false

theorem badT_true (l : List Int) : badT l true = true := by unfold badT; simp
theorem badOf_true (l : List Int) : badOf l true = true := by unfold badOf; simp
theorem takeTs_bad {l : List Int} {b : Bool} {i : Nat} (h : (takeTs i l b).2.2 = true) : ∀ k, (takeTs (i + k) l b).2.2 = true
  | 0 => h
  | k + 1 => by
    show badT (takeTs (i + k) l b).2.1 (takeTs (i + k) l b).2.2 = true
    rw [takeTs_bad h k, badT_true]
theorem takeFs_bad {l : List Int} {b : Bool} {i : Nat} (h : (takeFs i l b).2.2 = true) : ∀ k, (takeFs (i + k) l b).2.2 = true
  | 0 => h
  | k + 1 => by
    show badOf (aftT (takeFs (i + k) l b).2.1) (badT (takeFs (i + k) l b).2.1 (takeFs (i + k) l b).2.2) = true
    rw [takeFs_bad h k, badT_true, badOf_true]
/-- An event that can't be taken. -/
def noE (l : List Int) : Prop := ∃ l2 b2, takeE l false = (z26, 2, l2, b2)
section
variable {l l4 l6 : List Int} {b4 b6 : Bool} {tags : List ByteArray} {fl : List S35} {j j2 : Nat}
theorem noE_tags (hn : ¬ (numOf (aftT (aftT l)) < 0 ∨ 6 < numOf (aftT (aftT l)))) (h : (takeTs (numOf (aftT (aftT l))).toNat (aft (aftT (aftT l))) (badOf (aftT (aftT l)) (badT (aftT l) (badT l false)))).2.2 = true) : noE l := by
  obtain ⟨⟨a, l4, b4⟩, hq⟩ : ∃ q, takeTs (numOf (aftT (aftT l))).toNat (aft (aftT (aftT l))) (badOf (aftT (aftT l)) (badT (aftT l) (badT l false))) = q := ⟨_, rfl⟩
  rw [hq] at h
  simp only at h
  subst h
  by_cases hm : numOf l4 < 0 ∨ 4 < numOf l4
  · exact ⟨_, _, takeE_m hn hq hm⟩
  · have hb := takeFs_bad (l := aft l4) (b := badOf l4 true) (i := 0) (badOf_true l4) (numOf l4).toNat
    rw [Nat.zero_add] at hb
    have hr := takeE_r hn hq hm rfl
    simp only at hr
    rw [if_pos (.inl hb)] at hr
    exact ⟨_, _, hr⟩
theorem refTake_no (hn : ¬ (numOf (aftT (aftT l)) < 0 ∨ 6 < numOf (aftT (aftT l))))
    (hA : (∀ i, i < j → (takeTs i (aft (aftT (aftT l))) (badOf (aftT (aftT l)) (badT (aftT l) (badT l false)))).2.2 = false ∧ (i : Int) < numOf (aftT (aftT l))) ∧ j ≤ 7 ∧ ¬ ((j : Int) < numOf (aftT (aftT l)) ∧ j ≤ 6 ∧ (takeTs j (aft (aftT (aftT l))) (badOf (aftT (aftT l)) (badT (aftT l) (badT l false)))).2.2 = false))
    (hq : takeTs j (aft (aftT (aftT l))) (badOf (aftT (aftT l)) (badT (aftT l) (badT l false))) = (tags, l4, b4))
    (hA2 : (∀ i, i < j2 → (takeFs i (aft l4) (badOf l4 b4)).2.2 = false ∧ (i : Int) < numOf l4) ∧ j2 ≤ 5 ∧ ¬ ((j2 : Int) < numOf l4 ∧ j2 ≤ 4 ∧ (takeFs j2 (aft l4) (badOf l4 b4)).2.2 = false))
    (hq2 : takeFs j2 (aft l4) (badOf l4 b4) = (fl, l6, b6)) :
    (numOf l4 < 0 ∨ b6 = true ∨ mayE (textOf l) (textOf (aftT l)) tags fl ≠ 0 → noE l) ∧ (¬ numOf l4 < 0 → b6 = false → mayE (textOf l) (textOf (aftT l)) tags fl = 0 → takeE l false = (⟨textOf l, textOf (aftT l), tags, fl⟩, 0, l6, false)) := by
  obtain ⟨a1, a2, a3⟩ := hA
  obtain ⟨c1, c2, c3⟩ := hA2
  have hjn : (j : Int) ≤ numOf (aftT (aftT l)) := by
    rcases Nat.eq_zero_or_pos j with h | h
    · omega
    · have := (a1 (j - 1) (by omega)).2; omega
  rw [hq] at a3
  rw [hq2] at c3
  simp only at a3 c3
  cases b4 with
  | true =>
    have hb : (takeTs (numOf (aftT (aftT l))).toNat (aft (aftT (aftT l))) (badOf (aftT (aftT l)) (badT (aftT l) (badT l false)))).2.2 = true := by
      have h := takeTs_bad (i := j) (l := aft (aftT (aftT l))) (b := badOf (aftT (aftT l)) (badT (aftT l) (badT l false))) (by rw [hq]) ((numOf (aftT (aftT l))).toNat - j)
      rwa [show j + ((numOf (aftT (aftT l))).toNat - j) = (numOf (aftT (aftT l))).toNat by omega] at h
    refine ⟨fun _ => noE_tags hn hb, fun _ h6 _ => ?_⟩
    have h := takeFs_bad (l := aft l4) (b := badOf l4 true) (i := 0) (badOf_true l4) j2
    rw [Nat.zero_add, hq2] at h
    simp only at h
    rw [h] at h6; cases h6
  | false =>
    have hj : (numOf (aftT (aftT l))).toNat = j := by
      rcases Nat.lt_or_ge j (numOf (aftT (aftT l))).toNat with h | h
      · exact absurd ⟨by omega, by omega, rfl⟩ a3
      · omega
    have hq' := hq
    rw [← hj] at hq'
    have hj2 : fl.length = j2 := by have := takeFs_len (aft l4) (badOf l4 false) j2; rw [hq2] at this; exact this
    by_cases hm : numOf l4 < 0 ∨ 4 < numOf l4
    · refine ⟨fun _ => ⟨_, _, takeE_m hn hq' hm⟩, fun h0 h6 h7 => ?_⟩
      exfalso
      have := ((okE_iff _ _ _ _).1 h7).hf4
      rcases hm with hm | hm
      · exact h0 hm
      · exact c3 ⟨by omega, by omega, h6⟩
    · have hm0 : 0 ≤ numOf l4 := by omega
      have hjm : (j2 : Int) ≤ numOf l4 := by
        rcases Nat.eq_zero_or_pos j2 with h | h
        · omega
        · have := (c1 (j2 - 1) (by omega)).2; omega
      cases b6 with
      | true =>
        have hb : (takeFs (numOf l4).toNat (aft l4) (badOf l4 false)).2.2 = true := by
          have h := takeFs_bad (i := j2) (l := aft l4) (b := badOf l4 false) (by rw [hq2]) ((numOf l4).toNat - j2)
          rwa [show j2 + ((numOf l4).toNat - j2) = (numOf l4).toNat by omega] at h
        refine ⟨fun _ => ?_, fun _ h6 _ => by cases h6⟩
        have hr := takeE_r hn hq' hm rfl
        simp only at hr
        rw [if_pos (.inl hb)] at hr
        exact ⟨_, _, hr⟩
      | false =>
        have hj3 : (numOf l4).toNat = j2 := by
          rcases Nat.lt_or_ge j2 (numOf l4).toNat with h | h
          · exact absurd ⟨by omega, by omega, rfl⟩ c3
          · omega
        have hq3 : takeFs (numOf l4).toNat (aft l4) (badOf l4 false) = (fl, l6, false) := by rw [hj3]; exact hq2
        have hr := takeE_r hn hq' hm hq3
        simp only at hr
        refine ⟨fun h => ?_, fun _ _ h7 => ?_⟩
        · rw [if_pos (by rcases h with h | h | h; (· exact absurd h (by omega)); (· cases h); exact .inr h)] at hr
          exact ⟨_, _, hr⟩
        · rw [if_neg (by rintro (h | h); (· cases h); exact h h7)] at hr
          exact hr
end
end Go.Proofs.Ytmnidohgnnpeiaa.Num

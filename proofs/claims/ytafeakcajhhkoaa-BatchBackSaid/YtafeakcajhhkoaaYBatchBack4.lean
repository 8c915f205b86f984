/- Functions of the program, told as plain functions, with their walks: written by a program of this claim's out of the translation. Events as bytes, and rows of events that are the same: in closed form. Events as bytes are told apart. What is taken is what was laid down: events, one and all. evcode.All: its walk. The contract of evcode.All, in the form that the printed functions ask. Rows of events as bytes. What is wrong with a batch: the walk of batch.May. Batches as bytes: in closed form. The reference's batches as bytes: in closed form. The reference's batches as bytes: in closed form: Put. -/
import Derived.WalkMore
import Derived.Test.YtafeakcajhhkoaaYBatchBack1
import Derived.Test.YtafeakcajhhkoaaYBatchBack2
import Derived.Test.YtafeakcajhhkoaaYBatchBack3
namespace Go.Proofs.Ytafeakcajhhkoaa.Prt
open Go.RowKit Go.Proofs.YtafeakcajhhkoaaW.PrintWords Go.Proofs.YtafeakcajhhkoaaW.PrintLast Go.Proofs.YtafeakcajhhkoaaW.PrintMore
attribute [local go_sem] max2_int min2_int max_two min_two max_three min_three max_four min_four   -- for this text's walks alone
set_option linter.unusedVariables false
set_option linter.unusedSimpArgs false

def registrarref04_SameAll.l0 : Nat → List (S40) → List (S40) → Int → Option (Bool)
  | 0, _, _, _ => none
  | k + 1, x0, x1, x5 => if x5 < (x0.length : Int) then (if 0 ≤ x5 then (if x5 < (x1.length : Int) then ((registrarref04_SameG.f ((rd_T40 x0 x5).f0) ((rd_T40 x0 x5).f1) ((rd_T40 x0 x5).f2) ((rd_T40 x0 x5).f3) ((rd_T40 x1 x5).f0) ((rd_T40 x1 x5).f1) ((rd_T40 x1 x5).f2) ((rd_T40 x1 x5).f3)).bind fun t290 => (if t290 = true then (registrarref04_SameAll.l0 k x0 x1 (wrap64 (x5 + 1))) else (some false))) else (none)) else (none)) else (some true)
def registrarref04_SameAll.f (k : Nat) (l0 : List (S40)) (l1 : List (S40)) : Option (Bool) := if (l0.length : Int) = (l1.length : Int) then (registrarref04_SameAll.l0 k l0 l1 0) else (some false)
def registrarref04_SameAll.T6 : Bool × List (List Nat × List Nat) := (true, [([], []), ([], []), ([0, 1], [0, 1]), ([2], [2]), ([], []), ([], []), ([4, 5], [4, 5]), ([6], [6]), ([3, 7], [3, 7]), ([8, 8, 0, 1, 2, 3, 4, 5, 6, 7, 8], [8])])
def registrarref04_SameAll.B6 : List Nat := [0, 0, 3, 7, 0, 0, 48, 112, 255, 511]
theorem registrarref04_SameAll.tab6 : rtab .any (opsOf Try.f24 6) = registrarref04_SameAll.T6 := by kernel_rfl
theorem registrarref04_SameAll.bits6 : waitsOk registrarref04_SameAll.T6.2 registrarref04_SameAll.B6 = true := by kernel_rfl
set_option maxHeartbeats 8000000 in
set_option maxRecDepth 100000 in
theorem registrarref04_SameAll.calls (k : Nat) (A0 : Option Addr) (c0 : Nat) (l0 : List (S40)) (A1 : Option Addr) (c1 : Nat) (l1 : List (S40)) (r : Bool) (w : World) (hr0 : Kd.C k40 w A0 l0.length l0) (hc0 : l0.length ≤ c0) (hr1 : Kd.C k40 w A1 l1.length l1) (hc1 : l1.length ≤ c1) (h : registrarref04_SameAll.f k l0 l1 = some r) :
    Calls Try.prog 24 #[.slice A0 l0.length c0, .slice A1 l1.length c1] w fun e w' => e = .returned (.bool r) ∧ Below w.heap.size w w' := by
  have hu40 := Try.underlying40
  have HR0 := Aside0.mk hr0
  have HC0 := Aside0.mk hc0
  clear hr0 hc0
  have HR1 := Aside0.mk hr1
  have HC1 := Aside0.mk hc1
  clear hr1 hc1
  have HB := Aside0.mk (Below.refl w.heap.size w)
  have H : (if (l0.length : Int) = (l1.length : Int) then (registrarref04_SameAll.l0 k l0 l1 0) else (some false)) = some r := h
  clear h
  by_cases c3 : (l0.length : Int) = (l1.length : Int)
  · rw [if_pos c3] at H
    have c3b0 : ((l0.length : Int) == (l1.length : Int)) = true := beq_iff_eq.mpr c3
    have c3b1 : ((l0.length : Int) != (l1.length : Int)) = false := bne_eq_false_iff_eq.mpr c3
    have c3b2 : (l0.length == l1.length) = true := by first | simpa using c3 | (simp at c3 ⊢; omega)
    clear c3
    have H' := Aside0.mk H
    clear H
    go_enter Try.func24, Try.ntmps24
    go_wp2
    go_loopg [5] k (fun kq v5 w' => ∃ (x5_1 : Int), v5 = .int .i64 x5_1 ∧ Aside0 (registrarref04_SameAll.l0 kq l0 l1 x5_1 = some r) ∧ Aside0 (kq ≤ k) ∧ Aside0 (Below w.heap.size w w'))
    case atStart => exact ⟨(0), (by first | rfl | (simp; done) | (simp [*]; done)), H', ⟨Nat.le_refl _⟩, ⟨by repeat (first | (with_reducible first | exact HB.out | apply below_alloc | apply pw_below_drewN | apply below_drew1) | exact HB.out)⟩⟩
    case round =>
      clear H'
      try clear c1
      try clear c2
      try clear p2
      try clear c3
      try clear c3b0
      try clear c3b1
      try clear c3b2
      obtain ⟨x5_1, rfl, HA, HK1, HB⟩ := hrel
      cases gk with
      | zero => exact absurd HA.out (by simp [registrarref04_SameAll.l0])
      | succ k1 =>
        have H := HA.out
        clear HA
        simp only [registrarref04_SameAll.l0] at H
        by_cases c4 : x5_1 < (l0.length : Int)
        · rw [if_pos c4] at H
          have c4b0 : decide (x5_1 < (l0.length : Int)) = true := decide_eq_true c4
          clear c4
          by_cases c5 : 0 ≤ x5_1
          · rw [if_pos c5] at H
            have c5b0 : decide (0 ≤ x5_1) = true := decide_eq_true c5
            clear c5
            by_cases c6 : x5_1 < (l1.length : Int)
            · rw [if_pos c6] at H
              have c6b0 : decide (x5_1 < (l1.length : Int)) = true := decide_eq_true c6
              clear c6
              replace H := Option.bind_eq_some_iff.mp H
              obtain ⟨t290, A70, H⟩ := H
              replace H : (if t290 = true then (registrarref04_SameAll.l0 k1 l0 l1 (wrap64 (x5_1 + 1))) else (some false)) = some r := H
              have A7 := Aside0.mk A70
              clear A70
              by_cases c8 : t290 = true
              · subst c8
                have H1 : (registrarref04_SameAll.l0 k1 l0 l1 (wrap64 (x5_1 + 1))) = some r := by rw [if_pos rfl] at H; exact H
                clear H
                have H := H1
                clear H1
                have H' := Aside0.mk H
                clear H
                try go_wp2
                have n0_ := Aside0.mk (below_drew1 HB.out)
                clear HB
                have HB := n0_
                clear n0_
                have p288 : 0 ≤ (x5_1 : Int) := of_decide_eq_true (by first | (with_reducible assumption) | assumption)
                have q288 : x5_1 < (l0.length : Int) := of_decide_eq_true (by first | (with_reducible assumption) | assumption)
                obtain ⟨ad288, A288_2, c288_2, A288_3, c288_3, e288, hx288_0, hx288_1, hx288_2, hx288_3, hl288_2, hi288_2, hl288_3, hi288_3⟩ := at_T40 HR0.out x5_1 p288 q288
                have hw288_3 := hx288_3
                have hw288_2 := hx288_2
                have hw288_1 := hx288_1
                have hw288_0 := hx288_0
                cases e288
                replace hx288_0 := (HB.out.cell (World.block_lt_of_cell? w _ hx288_0)).trans hx288_0
                replace hx288_1 := (HB.out.cell (World.block_lt_of_cell? w _ hx288_1)).trans hx288_1
                replace hx288_2 := (HB.out.cell (World.block_lt_of_cell? w _ hx288_2)).trans hx288_2
                replace hx288_3 := (HB.out.cell (World.block_lt_of_cell? w _ hx288_3)).trans hx288_3
                have HR288_2 := Aside0.mk hi288_2
                have HC288_2 := Aside0.mk hl288_2
                clear hi288_2 hl288_2
                have HR288_3 := Aside0.mk hi288_3
                have HC288_3 := Aside0.mk hl288_3
                clear hi288_3 hl288_3
                replace p288 := eq_true p288
                replace q288 := eq_true q288
                have p289 : 0 ≤ (x5_1 : Int) := of_decide_eq_true (by first | (with_reducible assumption) | assumption)
                have q289 : x5_1 < (l1.length : Int) := of_decide_eq_true (by first | (with_reducible assumption) | assumption)
                obtain ⟨ad289, A289_2, c289_2, A289_3, c289_3, e289, hx289_0, hx289_1, hx289_2, hx289_3, hl289_2, hi289_2, hl289_3, hi289_3⟩ := at_T40 HR1.out x5_1 p289 q289
                have hw289_3 := hx289_3
                have hw289_2 := hx289_2
                have hw289_1 := hx289_1
                have hw289_0 := hx289_0
                cases e289
                replace hx289_0 := (HB.out.cell (World.block_lt_of_cell? w _ hx289_0)).trans hx289_0
                replace hx289_1 := (HB.out.cell (World.block_lt_of_cell? w _ hx289_1)).trans hx289_1
                replace hx289_2 := (HB.out.cell (World.block_lt_of_cell? w _ hx289_2)).trans hx289_2
                replace hx289_3 := (HB.out.cell (World.block_lt_of_cell? w _ hx289_3)).trans hx289_3
                have HR289_2 := Aside0.mk hi289_2
                have HC289_2 := Aside0.mk hl289_2
                clear hi289_2 hl289_2
                have HR289_3 := Aside0.mk hi289_3
                have HC289_3 := Aside0.mk hl289_3
                clear hi289_3 hl289_3
                replace p289 := eq_true p289
                replace q289 := eq_true q289
                refine start_ (n := 10) (S := fun w' => w'.cell? (ad288.add ((x5_1).toNat * 4)) = some (.string ((rd_T40 l0 x5_1).f0)) ∧ w'.cell? ⟨(ad288.add ((x5_1).toNat * 4)).block, (ad288.add ((x5_1).toNat * 4)).off + 1, none⟩ = some (.string ((rd_T40 l0 x5_1).f1)) ∧ w'.cell? ⟨(ad288.add ((x5_1).toNat * 4)).block, (ad288.add ((x5_1).toNat * 4)).off + 2, none⟩ = some (.slice A288_2 ((rd_T40 l0 x5_1).f2).length c288_2) ∧ w'.cell? ⟨(ad288.add ((x5_1).toNat * 4)).block, (ad288.add ((x5_1).toNat * 4)).off + 3, none⟩ = some (.slice A288_3 ((rd_T40 l0 x5_1).f3).length c288_3) ∧ w'.cell? (ad289.add ((x5_1).toNat * 4)) = some (.string ((rd_T40 l1 x5_1).f0)) ∧ w'.cell? ⟨(ad289.add ((x5_1).toNat * 4)).block, (ad289.add ((x5_1).toNat * 4)).off + 1, none⟩ = some (.string ((rd_T40 l1 x5_1).f1)) ∧ w'.cell? ⟨(ad289.add ((x5_1).toNat * 4)).block, (ad289.add ((x5_1).toNat * 4)).off + 2, none⟩ = some (.slice A289_2 ((rd_T40 l1 x5_1).f2).length c289_2) ∧ w'.cell? ⟨(ad289.add ((x5_1).toNat * 4)).block, (ad289.add ((x5_1).toNat * 4)).off + 3, none⟩ = some (.slice A289_3 ((rd_T40 l1 x5_1).f3).length c289_3)) (ds := []) #[false, false, false, false, false, false, false, false, false, false] (by kernel_rfl) rfl rfl ⟨((HB.out.cell (World.block_lt_of_cell? w _ hw288_0)).trans hw288_0), ((HB.out.cell (World.block_lt_of_cell? w _ hw288_1)).trans hw288_1), ((HB.out.cell (World.block_lt_of_cell? w _ hw288_2)).trans hw288_2), ((HB.out.cell (World.block_lt_of_cell? w _ hw288_3)).trans hw288_3), ((HB.out.cell (World.block_lt_of_cell? w _ hw289_0)).trans hw289_0), ((HB.out.cell (World.block_lt_of_cell? w _ hw289_1)).trans hw289_1), ((HB.out.cell (World.block_lt_of_cell? w _ hw289_2)).trans hw289_2), ((HB.out.cell (World.block_lt_of_cell? w _ hw289_3)).trans hw289_3)⟩ (fun hHeld => ?_); refine with_tabW registrarref04_SameAll.tab6 registrarref04_SameAll.bits6 (fun HT_ HW_ => ?_)
                generalize wr.drew = w9 at HB HR288_2 HR288_3 HR289_2 HR289_3 hx288_0 hx288_1 hx288_2 hx288_3 hx289_0 hx289_1 hx289_2 hx289_3 hHeld ⊢
                refine pure_ (i := 0) (N := some 18) (v := ?_) (a' := ?_) #[true, false, false, false, false, false, false, false, false, false] rfl rfl (any_of HT_.out (by kernel_rfl)) (fun _ _ _ h => h) (Or.inl ⟨by rfl, ?_⟩) ?_ ?_
                rotate_left
                · intro w'
                  go_simp
                  with_reducible rfl
                rotate_left
                · simp only [Act.put, List.setIfInBounds_toArray, List.set_cons_zero, List.set_cons_succ, i64_w, i32_w]
                  rfl
                refine pure_ (i := 1) (N := some 19) (v := ?_) (a' := ?_) #[true, true, false, false, false, false, false, false, false, false] rfl rfl (any_of HT_.out (by kernel_rfl)) (fun _ _ _ h => h) (Or.inl ⟨by rfl, ?_⟩) ?_ ?_
                rotate_left
                · intro w'
                  go_simp
                  with_reducible rfl
                rotate_left
                · simp only [Act.put, List.setIfInBounds_toArray, List.set_cons_zero, List.set_cons_succ, i64_w, i32_w]
                  rfl
                refine pure_ (i := 2) (N := some 20) (v := ?_) (a' := ?_) #[true, true, true, false, false, false, false, false, false, false] rfl rfl (any_of HT_.out (by kernel_rfl)) (fun _ _ _ h => h) (Or.inl ⟨by rfl, ?_⟩) ?_ ?_
                rotate_left
                · intro w'
                  go_simp
                  with_reducible rfl
                rotate_left
                · simp only [Act.put, List.setIfInBounds_toArray, List.set_cons_zero, List.set_cons_succ, i64_w, i32_w]
                  rfl
                refine pure_ (i := 4) (N := some 22) (v := ?_) (a' := ?_) #[true, true, true, false, true, false, false, false, false, false] rfl rfl (any_of HT_.out (by kernel_rfl)) (fun _ _ _ h => h) (Or.inl ⟨by rfl, ?_⟩) ?_ ?_
                rotate_left
                · intro w'
                  go_simp
                  with_reducible rfl
                rotate_left
                · simp only [Act.put, List.setIfInBounds_toArray, List.set_cons_zero, List.set_cons_succ, i64_w, i32_w]
                  rfl
                refine pure_ (i := 5) (N := some 23) (v := ?_) (a' := ?_) #[true, true, true, false, true, true, false, false, false, false] rfl rfl (any_of HT_.out (by kernel_rfl)) (fun _ _ _ h => h) (Or.inl ⟨by rfl, ?_⟩) ?_ ?_
                rotate_left
                · intro w'
                  go_simp
                  with_reducible rfl
                rotate_left
                · simp only [Act.put, List.setIfInBounds_toArray, List.set_cons_zero, List.set_cons_succ, i64_w, i32_w]
                  rfl
                refine pure_ (i := 6) (N := some 24) (v := ?_) (a' := ?_) #[true, true, true, false, true, true, true, false, false, false] rfl rfl (any_of HT_.out (by kernel_rfl)) (fun _ _ _ h => h) (Or.inl ⟨by rfl, ?_⟩) ?_ ?_
                rotate_left
                · intro w'
                  go_simp
                  with_reducible rfl
                rotate_left
                · simp only [Act.put, List.setIfInBounds_toArray, List.set_cons_zero, List.set_cons_succ, i64_w, i32_w]
                  rfl
                refine take_ (i := 3) (N := some 21) (v := ?_) (a' := ?_) #[true, true, true, true, true, true, true, false, false, false] rfl rfl (take_ofW HT_.out HW_.out (by kernel_rfl)) (fun _ _ _ h => h) (Or.inl ⟨by rfl, ?_⟩) hHeld ?_ ?_
                rotate_left
                · rintro w' ⟨s0, s1, s2, s3, s4, s5, s6, s7⟩
                  go_simp
                  with_reducible rfl
                rotate_left
                · simp only [Act.put, List.setIfInBounds_toArray, List.set_cons_zero, List.set_cons_succ, i64_w, i32_w]
                  rfl
                refine take_ (i := 7) (N := some 25) (v := ?_) (a' := ?_) #[true, true, true, true, true, true, true, true, false, false] rfl rfl (take_ofW HT_.out HW_.out (by kernel_rfl)) (fun _ _ _ h => h) (Or.inl ⟨by rfl, ?_⟩) hHeld ?_ ?_
                rotate_left
                · rintro w' ⟨s0, s1, s2, s3, s4, s5, s6, s7⟩
                  go_simp
                  with_reducible rfl
                rotate_left
                · simp only [Act.put, List.setIfInBounds_toArray, List.set_cons_zero, List.set_cons_succ, i64_w, i32_w]
                  rfl
                refine one_ (i := 8) (N := some 26) #[true, true, true, true, true, true, true, true, true, false] rfl rfl (one_of HT_.out (by kernel_rfl)) (by decide) (fun K hK => ?_)
                refine goes_ Try.func46 (by kernel_rfl) rfl #[.agg #[.string ((rd_T40 l0 x5_1).f0), .string ((rd_T40 l0 x5_1).f1), .slice A288_2 ((rd_T40 l0 x5_1).f2).length c288_2, .slice A288_3 ((rd_T40 l0 x5_1).f3).length c288_3], .agg #[.string ((rd_T40 l1 x5_1).f0), .string ((rd_T40 l1 x5_1).f1), .slice A289_2 ((rd_T40 l1 x5_1).f2).length c289_2, .slice A289_3 ((rd_T40 l1 x5_1).f3).length c289_3]] (by rfl) rfl rfl (by (try simp only [List.map_toArray, List.map_cons, List.map_nil]); first | done | rfl | (simp only [List.length_drop, List.length_take]; rfl)) ?_
                with_reducible refine (registrarref04_SameG.calls ((rd_T40 l0 x5_1).f0) ((rd_T40 l0 x5_1).f1) _ _ ((rd_T40 l0 x5_1).f2) _ _ ((rd_T40 l0 x5_1).f3) ((rd_T40 l1 x5_1).f0) ((rd_T40 l1 x5_1).f1) _ _ ((rd_T40 l1 x5_1).f2) _ _ ((rd_T40 l1 x5_1).f3) true _ ?side1 ?side2 ?side3 ?side4 ?side5 ?side6 ?side7 ?side8 A7.out).mono ?_
                (case side1 => repeat (first | exact (Kd.C_below HR288_2.out HB.out) | (with_reducible refine Kd.C_alloc ?_ _) | (with_reducible refine Kd.C_drewN ?_ _) | (with_reducible refine Kd.C_drew ?_)))
                (case side2 => exact HC288_2.out)
                (case side3 => repeat (first | exact (Kd.C_below HR288_3.out HB.out) | (with_reducible refine Kd.C_alloc ?_ _) | (with_reducible refine Kd.C_drewN ?_ _) | (with_reducible refine Kd.C_drew ?_)))
                (case side4 => exact HC288_3.out)
                (case side5 => repeat (first | exact (Kd.C_below HR289_2.out HB.out) | (with_reducible refine Kd.C_alloc ?_ _) | (with_reducible refine Kd.C_drewN ?_ _) | (with_reducible refine Kd.C_drew ?_)))
                (case side6 => exact HC289_2.out)
                (case side7 => repeat (first | exact (Kd.C_below HR289_3.out HB.out) | (with_reducible refine Kd.C_alloc ?_ _) | (with_reducible refine Kd.C_drewN ?_ _) | (with_reducible refine Kd.C_drew ?_)))
                (case side8 => exact HC289_3.out)
                rintro e w10 ⟨rfl, hb⟩
                refine ⟨_, rfl, ?_⟩
                have n0_ := Aside0.mk (below_step (by repeat (first | (with_reducible first | exact HB.out | apply below_alloc | apply pw_below_drewN | apply below_drew1) | exact HB.out)) hb)
                clear HB
                have HB := n0_
                clear n0_
                (try clear hb)
                (try clear hb2)
                (try clear hk)
                (try clear hi)
                refine hK.out _ _ ⟨((HB.out.cell (World.block_lt_of_cell? w _ hw288_0)).trans hw288_0), ((HB.out.cell (World.block_lt_of_cell? w _ hw288_1)).trans hw288_1), ((HB.out.cell (World.block_lt_of_cell? w _ hw288_2)).trans hw288_2), ((HB.out.cell (World.block_lt_of_cell? w _ hw288_3)).trans hw288_3), ((HB.out.cell (World.block_lt_of_cell? w _ hw289_0)).trans hw289_0), ((HB.out.cell (World.block_lt_of_cell? w _ hw289_1)).trans hw289_1), ((HB.out.cell (World.block_lt_of_cell? w _ hw289_2)).trans hw289_2), ((HB.out.cell (World.block_lt_of_cell? w _ hw289_3)).trans hw289_3)⟩ (fun hHeld => ?_)
                clear hK K
                refine norm_ (a' := ?_) ?_ ?_
                rotate_left
                · show Act.put _ (some 26) _ = _
                  simp only [Act.put, List.setIfInBounds_toArray, List.set_cons_zero, List.set_cons_succ, i64_w, i32_w]
                  rfl
                refine pure_ (i := 9) (N := some 6) (v := ?_) (a' := ?_) #[true, true, true, true, true, true, true, true, true, true] rfl rfl (any_of HT_.out (by kernel_rfl)) (fun _ _ _ h => h) (Or.inl ⟨by rfl, ?_⟩) ?_ ?_
                rotate_left
                · intro w'
                  go_simp
                  with_reducible rfl
                rotate_left
                · simp only [Act.put, List.setIfInBounds_toArray, List.set_cons_zero, List.set_cons_succ, i64_w, i32_w]
                  rfl
                refine done_ (done_of HT_.out (by kernel_rfl)) ?_
                try go_wp2
                go_roundg k1
                case measure => have := HK1.out; omega
                case rel => exact ⟨(wrap64 (x5_1 + 1)), (by first | rfl | (simp; done) | (simp [*]; done)), H', ⟨by have := HK1.out; omega⟩, ⟨by repeat (first | (with_reducible first | exact HB.out | apply below_alloc | apply pw_below_drewN | apply below_drew1) | exact HB.out)⟩⟩
              · replace c8 := Bool.eq_false_iff.mpr c8
                subst c8
                have H1 : (some false) = some r := by rw [if_neg (show ¬ (false = true) by decide)] at H; exact H
                clear H
                have H := H1
                clear H1
                obtain rfl := Option.some.inj H
                try go_wp2
                have n0_ := Aside0.mk (below_drew1 HB.out)
                clear HB
                have HB := n0_
                clear n0_
                have p288 : 0 ≤ (x5_1 : Int) := of_decide_eq_true (by first | (with_reducible assumption) | assumption)
                have q288 : x5_1 < (l0.length : Int) := of_decide_eq_true (by first | (with_reducible assumption) | assumption)
                obtain ⟨ad288, A288_2, c288_2, A288_3, c288_3, e288, hx288_0, hx288_1, hx288_2, hx288_3, hl288_2, hi288_2, hl288_3, hi288_3⟩ := at_T40 HR0.out x5_1 p288 q288
                have hw288_3 := hx288_3
                have hw288_2 := hx288_2
                have hw288_1 := hx288_1
                have hw288_0 := hx288_0
                cases e288
                replace hx288_0 := (HB.out.cell (World.block_lt_of_cell? w _ hx288_0)).trans hx288_0
                replace hx288_1 := (HB.out.cell (World.block_lt_of_cell? w _ hx288_1)).trans hx288_1
                replace hx288_2 := (HB.out.cell (World.block_lt_of_cell? w _ hx288_2)).trans hx288_2
                replace hx288_3 := (HB.out.cell (World.block_lt_of_cell? w _ hx288_3)).trans hx288_3
                have HR288_2 := Aside0.mk hi288_2
                have HC288_2 := Aside0.mk hl288_2
                clear hi288_2 hl288_2
                have HR288_3 := Aside0.mk hi288_3
                have HC288_3 := Aside0.mk hl288_3
                clear hi288_3 hl288_3
                replace p288 := eq_true p288
                replace q288 := eq_true q288
                have p289 : 0 ≤ (x5_1 : Int) := of_decide_eq_true (by first | (with_reducible assumption) | assumption)
                have q289 : x5_1 < (l1.length : Int) := of_decide_eq_true (by first | (with_reducible assumption) | assumption)
                obtain ⟨ad289, A289_2, c289_2, A289_3, c289_3, e289, hx289_0, hx289_1, hx289_2, hx289_3, hl289_2, hi289_2, hl289_3, hi289_3⟩ := at_T40 HR1.out x5_1 p289 q289
                have hw289_3 := hx289_3
                have hw289_2 := hx289_2
                have hw289_1 := hx289_1
                have hw289_0 := hx289_0
                cases e289
                replace hx289_0 := (HB.out.cell (World.block_lt_of_cell? w _ hx289_0)).trans hx289_0
                replace hx289_1 := (HB.out.cell (World.block_lt_of_cell? w _ hx289_1)).trans hx289_1
                replace hx289_2 := (HB.out.cell (World.block_lt_of_cell? w _ hx289_2)).trans hx289_2
                replace hx289_3 := (HB.out.cell (World.block_lt_of_cell? w _ hx289_3)).trans hx289_3
                have HR289_2 := Aside0.mk hi289_2
                have HC289_2 := Aside0.mk hl289_2
                clear hi289_2 hl289_2
                have HR289_3 := Aside0.mk hi289_3
                have HC289_3 := Aside0.mk hl289_3
                clear hi289_3 hl289_3
                replace p289 := eq_true p289
                replace q289 := eq_true q289
                refine start_ (n := 10) (S := fun w' => w'.cell? (ad288.add ((x5_1).toNat * 4)) = some (.string ((rd_T40 l0 x5_1).f0)) ∧ w'.cell? ⟨(ad288.add ((x5_1).toNat * 4)).block, (ad288.add ((x5_1).toNat * 4)).off + 1, none⟩ = some (.string ((rd_T40 l0 x5_1).f1)) ∧ w'.cell? ⟨(ad288.add ((x5_1).toNat * 4)).block, (ad288.add ((x5_1).toNat * 4)).off + 2, none⟩ = some (.slice A288_2 ((rd_T40 l0 x5_1).f2).length c288_2) ∧ w'.cell? ⟨(ad288.add ((x5_1).toNat * 4)).block, (ad288.add ((x5_1).toNat * 4)).off + 3, none⟩ = some (.slice A288_3 ((rd_T40 l0 x5_1).f3).length c288_3) ∧ w'.cell? (ad289.add ((x5_1).toNat * 4)) = some (.string ((rd_T40 l1 x5_1).f0)) ∧ w'.cell? ⟨(ad289.add ((x5_1).toNat * 4)).block, (ad289.add ((x5_1).toNat * 4)).off + 1, none⟩ = some (.string ((rd_T40 l1 x5_1).f1)) ∧ w'.cell? ⟨(ad289.add ((x5_1).toNat * 4)).block, (ad289.add ((x5_1).toNat * 4)).off + 2, none⟩ = some (.slice A289_2 ((rd_T40 l1 x5_1).f2).length c289_2) ∧ w'.cell? ⟨(ad289.add ((x5_1).toNat * 4)).block, (ad289.add ((x5_1).toNat * 4)).off + 3, none⟩ = some (.slice A289_3 ((rd_T40 l1 x5_1).f3).length c289_3)) (ds := []) #[false, false, false, false, false, false, false, false, false, false] (by kernel_rfl) rfl rfl ⟨((HB.out.cell (World.block_lt_of_cell? w _ hw288_0)).trans hw288_0), ((HB.out.cell (World.block_lt_of_cell? w _ hw288_1)).trans hw288_1), ((HB.out.cell (World.block_lt_of_cell? w _ hw288_2)).trans hw288_2), ((HB.out.cell (World.block_lt_of_cell? w _ hw288_3)).trans hw288_3), ((HB.out.cell (World.block_lt_of_cell? w _ hw289_0)).trans hw289_0), ((HB.out.cell (World.block_lt_of_cell? w _ hw289_1)).trans hw289_1), ((HB.out.cell (World.block_lt_of_cell? w _ hw289_2)).trans hw289_2), ((HB.out.cell (World.block_lt_of_cell? w _ hw289_3)).trans hw289_3)⟩ (fun hHeld => ?_); refine with_tabW registrarref04_SameAll.tab6 registrarref04_SameAll.bits6 (fun HT_ HW_ => ?_)
                generalize wr.drew = w11 at HB HR288_2 HR288_3 HR289_2 HR289_3 hx288_0 hx288_1 hx288_2 hx288_3 hx289_0 hx289_1 hx289_2 hx289_3 hHeld ⊢
                refine pure_ (i := 0) (N := some 18) (v := ?_) (a' := ?_) #[true, false, false, false, false, false, false, false, false, false] rfl rfl (any_of HT_.out (by kernel_rfl)) (fun _ _ _ h => h) (Or.inl ⟨by rfl, ?_⟩) ?_ ?_
                rotate_left
                · intro w'
                  go_simp
                  with_reducible rfl
                rotate_left
                · simp only [Act.put, List.setIfInBounds_toArray, List.set_cons_zero, List.set_cons_succ, i64_w, i32_w]
                  rfl
                refine pure_ (i := 1) (N := some 19) (v := ?_) (a' := ?_) #[true, true, false, false, false, false, false, false, false, false] rfl rfl (any_of HT_.out (by kernel_rfl)) (fun _ _ _ h => h) (Or.inl ⟨by rfl, ?_⟩) ?_ ?_
                rotate_left
                · intro w'
                  go_simp
                  with_reducible rfl
                rotate_left
                · simp only [Act.put, List.setIfInBounds_toArray, List.set_cons_zero, List.set_cons_succ, i64_w, i32_w]
                  rfl
                refine pure_ (i := 2) (N := some 20) (v := ?_) (a' := ?_) #[true, true, true, false, false, false, false, false, false, false] rfl rfl (any_of HT_.out (by kernel_rfl)) (fun _ _ _ h => h) (Or.inl ⟨by rfl, ?_⟩) ?_ ?_
                rotate_left
                · intro w'
                  go_simp
                  with_reducible rfl
                rotate_left
                · simp only [Act.put, List.setIfInBounds_toArray, List.set_cons_zero, List.set_cons_succ, i64_w, i32_w]
                  rfl
                refine pure_ (i := 4) (N := some 22) (v := ?_) (a' := ?_) #[true, true, true, false, true, false, false, false, false, false] rfl rfl (any_of HT_.out (by kernel_rfl)) (fun _ _ _ h => h) (Or.inl ⟨by rfl, ?_⟩) ?_ ?_
                rotate_left
                · intro w'
                  go_simp
                  with_reducible rfl
                rotate_left
                · simp only [Act.put, List.setIfInBounds_toArray, List.set_cons_zero, List.set_cons_succ, i64_w, i32_w]
                  rfl
                refine pure_ (i := 5) (N := some 23) (v := ?_) (a' := ?_) #[true, true, true, false, true, true, false, false, false, false] rfl rfl (any_of HT_.out (by kernel_rfl)) (fun _ _ _ h => h) (Or.inl ⟨by rfl, ?_⟩) ?_ ?_
                rotate_left
                · intro w'
                  go_simp
                  with_reducible rfl
                rotate_left
                · simp only [Act.put, List.setIfInBounds_toArray, List.set_cons_zero, List.set_cons_succ, i64_w, i32_w]
                  rfl
                refine pure_ (i := 6) (N := some 24) (v := ?_) (a' := ?_) #[true, true, true, false, true, true, true, false, false, false] rfl rfl (any_of HT_.out (by kernel_rfl)) (fun _ _ _ h => h) (Or.inl ⟨by rfl, ?_⟩) ?_ ?_
                rotate_left
                · intro w'
                  go_simp
                  with_reducible rfl
                rotate_left
                · simp only [Act.put, List.setIfInBounds_toArray, List.set_cons_zero, List.set_cons_succ, i64_w, i32_w]
                  rfl
                refine take_ (i := 3) (N := some 21) (v := ?_) (a' := ?_) #[true, true, true, true, true, true, true, false, false, false] rfl rfl (take_ofW HT_.out HW_.out (by kernel_rfl)) (fun _ _ _ h => h) (Or.inl ⟨by rfl, ?_⟩) hHeld ?_ ?_
                rotate_left
                · rintro w' ⟨s0, s1, s2, s3, s4, s5, s6, s7⟩
                  go_simp
                  with_reducible rfl
                rotate_left
                · simp only [Act.put, List.setIfInBounds_toArray, List.set_cons_zero, List.set_cons_succ, i64_w, i32_w]
                  rfl
                refine take_ (i := 7) (N := some 25) (v := ?_) (a' := ?_) #[true, true, true, true, true, true, true, true, false, false] rfl rfl (take_ofW HT_.out HW_.out (by kernel_rfl)) (fun _ _ _ h => h) (Or.inl ⟨by rfl, ?_⟩) hHeld ?_ ?_
                rotate_left
                · rintro w' ⟨s0, s1, s2, s3, s4, s5, s6, s7⟩
                  go_simp
                  with_reducible rfl
                rotate_left
                · simp only [Act.put, List.setIfInBounds_toArray, List.set_cons_zero, List.set_cons_succ, i64_w, i32_w]
                  rfl
                refine one_ (i := 8) (N := some 26) #[true, true, true, true, true, true, true, true, true, false] rfl rfl (one_of HT_.out (by kernel_rfl)) (by decide) (fun K hK => ?_)
                refine goes_ Try.func46 (by kernel_rfl) rfl #[.agg #[.string ((rd_T40 l0 x5_1).f0), .string ((rd_T40 l0 x5_1).f1), .slice A288_2 ((rd_T40 l0 x5_1).f2).length c288_2, .slice A288_3 ((rd_T40 l0 x5_1).f3).length c288_3], .agg #[.string ((rd_T40 l1 x5_1).f0), .string ((rd_T40 l1 x5_1).f1), .slice A289_2 ((rd_T40 l1 x5_1).f2).length c289_2, .slice A289_3 ((rd_T40 l1 x5_1).f3).length c289_3]] (by rfl) rfl rfl (by (try simp only [List.map_toArray, List.map_cons, List.map_nil]); first | done | rfl | (simp only [List.length_drop, List.length_take]; rfl)) ?_
                with_reducible refine (registrarref04_SameG.calls ((rd_T40 l0 x5_1).f0) ((rd_T40 l0 x5_1).f1) _ _ ((rd_T40 l0 x5_1).f2) _ _ ((rd_T40 l0 x5_1).f3) ((rd_T40 l1 x5_1).f0) ((rd_T40 l1 x5_1).f1) _ _ ((rd_T40 l1 x5_1).f2) _ _ ((rd_T40 l1 x5_1).f3) false _ ?side1 ?side2 ?side3 ?side4 ?side5 ?side6 ?side7 ?side8 A7.out).mono ?_
                (case side1 => repeat (first | exact (Kd.C_below HR288_2.out HB.out) | (with_reducible refine Kd.C_alloc ?_ _) | (with_reducible refine Kd.C_drewN ?_ _) | (with_reducible refine Kd.C_drew ?_)))
                (case side2 => exact HC288_2.out)
                (case side3 => repeat (first | exact (Kd.C_below HR288_3.out HB.out) | (with_reducible refine Kd.C_alloc ?_ _) | (with_reducible refine Kd.C_drewN ?_ _) | (with_reducible refine Kd.C_drew ?_)))
                (case side4 => exact HC288_3.out)
                (case side5 => repeat (first | exact (Kd.C_below HR289_2.out HB.out) | (with_reducible refine Kd.C_alloc ?_ _) | (with_reducible refine Kd.C_drewN ?_ _) | (with_reducible refine Kd.C_drew ?_)))
                (case side6 => exact HC289_2.out)
                (case side7 => repeat (first | exact (Kd.C_below HR289_3.out HB.out) | (with_reducible refine Kd.C_alloc ?_ _) | (with_reducible refine Kd.C_drewN ?_ _) | (with_reducible refine Kd.C_drew ?_)))
                (case side8 => exact HC289_3.out)
                rintro e w12 ⟨rfl, hb⟩
                refine ⟨_, rfl, ?_⟩
                have n0_ := Aside0.mk (below_step (by repeat (first | (with_reducible first | exact HB.out | apply below_alloc | apply pw_below_drewN | apply below_drew1) | exact HB.out)) hb)
                clear HB
                have HB := n0_
                clear n0_
                (try clear hb)
                (try clear hb2)
                (try clear hk)
                (try clear hi)
                refine hK.out _ _ ⟨((HB.out.cell (World.block_lt_of_cell? w _ hw288_0)).trans hw288_0), ((HB.out.cell (World.block_lt_of_cell? w _ hw288_1)).trans hw288_1), ((HB.out.cell (World.block_lt_of_cell? w _ hw288_2)).trans hw288_2), ((HB.out.cell (World.block_lt_of_cell? w _ hw288_3)).trans hw288_3), ((HB.out.cell (World.block_lt_of_cell? w _ hw289_0)).trans hw289_0), ((HB.out.cell (World.block_lt_of_cell? w _ hw289_1)).trans hw289_1), ((HB.out.cell (World.block_lt_of_cell? w _ hw289_2)).trans hw289_2), ((HB.out.cell (World.block_lt_of_cell? w _ hw289_3)).trans hw289_3)⟩ (fun hHeld => ?_)
                clear hK K
                refine norm_ (a' := ?_) ?_ ?_
                rotate_left
                · show Act.put _ (some 26) _ = _
                  simp only [Act.put, List.setIfInBounds_toArray, List.set_cons_zero, List.set_cons_succ, i64_w, i32_w]
                  rfl
                refine pure_ (i := 9) (N := some 6) (v := ?_) (a' := ?_) #[true, true, true, true, true, true, true, true, true, true] rfl rfl (any_of HT_.out (by kernel_rfl)) (fun _ _ _ h => h) (Or.inl ⟨by rfl, ?_⟩) ?_ ?_
                rotate_left
                · intro w'
                  go_simp
                  with_reducible rfl
                rotate_left
                · simp only [Act.put, List.setIfInBounds_toArray, List.set_cons_zero, List.set_cons_succ, i64_w, i32_w]
                  rfl
                refine done_ (done_of HT_.out (by kernel_rfl)) ?_
                try go_wp2
                go_ret
                exact ⟨by first | rfl | (simp [errW_none, errW_some] <;> rfl) | (simp [*, errW_none, errW_some] <;> rfl), by repeat (first | (with_reducible first | exact HB.out | apply below_alloc | apply pw_below_drewN | apply below_drew1) | exact HB.out)⟩
            · rw [if_neg c6] at H
              exact absurd H (by simp)
          · rw [if_neg c5] at H
            exact absurd H (by simp)
        · rw [if_neg c4] at H
          have c4b0 : decide (x5_1 < (l0.length : Int)) = false := decide_eq_false c4
          clear c4
          obtain rfl := Option.some.inj H
          go_wp2
          go_ret
          exact ⟨by first | rfl | (simp [errW_none, errW_some] <;> rfl) | (simp [*, errW_none, errW_some] <;> rfl), by repeat (first | (with_reducible first | exact HB.out | apply below_alloc | apply pw_below_drewN | apply below_drew1) | exact HB.out)⟩
  · rw [if_neg c3] at H
    have c3b0 : ((l0.length : Int) == (l1.length : Int)) = false := beq_eq_false_iff_ne.mpr c3
    have c3b1 : ((l0.length : Int) != (l1.length : Int)) = true := bne_iff_ne.mpr c3
    have c3b2 : (l0.length == l1.length) = false := by first | simpa using c3 | (simp at c3 ⊢; omega)
    obtain rfl := Option.some.inj H
    go_enter Try.func24, Try.ntmps24
    go_wp2
    go_ret
    exact ⟨by first | rfl | (simp [errW_none, errW_some] <;> rfl) | (simp [*, errW_none, errW_some] <;> rfl), by repeat (first | (with_reducible first | exact HB.out | apply below_alloc | apply pw_below_drewN | apply below_drew1) | exact HB.out)⟩

end Go.Proofs.Ytafeakcajhhkoaa.Prt
namespace Go.Proofs.Ytafeakcajhhkoaa.Prt
open Go.RowKit Go.Proofs.YtafeakcajhhkoaaW.PrintWords Go.Proofs.YtafeakcajhhkoaaW.PrintLast Go.Proofs.YtafeakcajhhkoaaW.PrintMore Go.Proofs.Ytafeakcajhhkoaa.Num Go.Proofs.Ytafeakcajhhkoaa.Nam
set_option linter.unusedVariables false
set_option linter.unusedSimpArgs false

theorem drop_rdE (l : List S40) (i : Nat) (h : i < l.length) : l.drop i = rd_T40 l (i : Int) :: l.drop (i + 1) := by
  rw [List.drop_eq_getElem_cons h]
  unfold rd_T40
  rw [Int.toNat_natCast, List.getD_eq_getElem?_getD, List.getElem?_eq_getElem h]; rfl
theorem rdE_mem {l : List S40} {i : Nat} (h : i < l.length) : rd_T40 l (i : Int) ∈ l := getD_mem' h _
def eqE (x y : S40) : Bool := eqEv x.f0 x.f1 x.f2 x.f3 y.f0 y.f1 y.f2 y.f3
theorem eqE_iff (x y : S40) : eqE x y = true ↔ x = y := by
  unfold eqE
  rw [eqEv_iff]
  cases x; cases y; simp
def lenE (x : S40) : Bool := decide (x.f2.length ≤ 9223372036854775807) && decide (x.f3.length ≤ 9223372036854775807)
theorem sameAll_loop (a b : List S40) (hl : a.length ≤ 9223372036854775807) (hab : a.length = b.length) (hla : a.all lenE = true) : ∀ (n i k : Nat), i + n = a.length → n < k → registrarref04_SameAll.l0 k a b (i : Int) = some (eqL eqE (a.drop i) (b.drop i)) := by
  intro n
  induction n with
  | zero =>
    intro i k hi hk
    obtain ⟨k, rfl⟩ : ∃ m, k = m + 1 := ⟨k - 1, by omega⟩
    rw [registrarref04_SameAll.l0, if_neg (by omega), List.drop_eq_nil_of_le (by omega), List.drop_eq_nil_of_le (by omega)]; rfl
  | succ n ih =>
    intro i k hi hk
    obtain ⟨k, rfl⟩ : ∃ m, k = m + 1 := ⟨k - 1, by omega⟩
    have hx := List.all_eq_true.1 hla _ (rdE_mem (l := a) (i := i) (by omega))
    unfold lenE at hx
    rw [Bool.and_eq_true, decide_eq_true_iff, decide_eq_true_iff] at hx
    have m1 : registrarref04_SameG.f (rd_T40 a (i : Int)).f0 (rd_T40 a (i : Int)).f1 (rd_T40 a (i : Int)).f2 (rd_T40 a (i : Int)).f3 (rd_T40 b (i : Int)).f0 (rd_T40 b (i : Int)).f1 (rd_T40 b (i : Int)).f2 (rd_T40 b (i : Int)).f3 = some (eqE (rd_T40 a (i : Int)) (rd_T40 b (i : Int))) := if_pos hx
    rw [registrarref04_SameAll.l0, if_pos (by omega), if_pos (by omega), if_pos (by omega), m1, drop_rdE a i (by omega), drop_rdE b i (by omega), eqL]
    simp only [Option.bind_some]
    cases eqE (rd_T40 a (i : Int)) (rd_T40 b (i : Int)) with
    | true => rw [if_pos rfl, succW i (by omega), ih (i + 1) k (by omega) (by omega)]; rfl
    | false => rfl
def registrarref04_SameAllG.f (l0 : List (S40)) (l1 : List (S40)) : Option (Bool) := if l0.length ≤ 9223372036854775807 ∧ l0.all lenE = true then some (eqL eqE l0 l1) else none
theorem registrarref04_SameAllG.val {l0 l1 : List (S40)} {r : Bool} (h : registrarref04_SameAllG.f l0 l1 = some r) : ∃ k, registrarref04_SameAll.f k l0 l1 = some r := by
  unfold registrarref04_SameAllG.f at h
  by_cases hc : l0.length ≤ 9223372036854775807 ∧ l0.all lenE = true
  · rw [if_pos hc] at h
    rw [← h]
    refine ⟨l0.length + 1, ?_⟩
    unfold registrarref04_SameAll.f
    by_cases hl : l0.length = l1.length
    · rw [if_pos (by omega)]
      exact sameAll_loop l0 l1 hc.1 hl hc.2 l0.length 0 (l0.length + 1) (by omega) (by omega)
    · rw [if_neg (by omega), eqL_len _ _ hl]
  · rw [if_neg hc] at h; cases h
theorem registrarref04_SameAllG.calls (A0 : Option Addr) (c0 : Nat) (l0 : List (S40)) (A1 : Option Addr) (c1 : Nat) (l1 : List (S40)) (r : Bool) (w : World) (hr0 : Kd.C k40 w A0 l0.length l0) (hc0 : l0.length ≤ c0) (hr1 : Kd.C k40 w A1 l1.length l1) (hc1 : l1.length ≤ c1) (h : registrarref04_SameAllG.f l0 l1 = some r) :
    Calls Try.prog 24 #[.slice A0 l0.length c0, .slice A1 l1.length c1] w fun e w' => e = .returned (.bool r) ∧ Below w.heap.size w w' := by
  obtain ⟨k, hk⟩ := registrarref04_SameAllG.val h
  exact registrarref04_SameAll.calls k A0 c0 l0 A1 c1 l1 r w hr0 hc0 hr1 hc1 hk

def encTs (l : List ByteArray) : List Int := l.flatMap fun s => encT (bytesOf s)
def encFs (l : List S50) : List Int := l.flatMap fun f => encT (bytesOf f.f0) ++ enc f.f1
/-- An event as bytes. -/
def encEv (s t : ByteArray) (tags : List ByteArray) (fl : List S50) : List Int :=
  encT (bytesOf s) ++ (encT (bytesOf t) ++ ((enc (tags.length : Int) ++ encTs tags) ++ (enc (fl.length : Int) ++ encFs fl)))
theorem encT_len (s : ByteArray) (h : s.size ≤ 9223372036854775807) : (encT (bytesOf s)).length ≤ 10 + s.size := by
  unfold encT
  have := enc_len (x := ((bytesOf s).length : Int)) ⟨by omega, by rw [bytes_length]; omega⟩
  rw [List.length_append, bytes_length] at *; omega
theorem may_size {s : ByteArray} (h : mayL (bytesOf s) = true) : s.size ≤ 24 := by have := (may_parts h).2.1; rwa [bytes_length] at this
theorem tag_size {s : ByteArray} (h : tagB s = true) : s.size ≤ 49 := by
  obtain ⟨k, v, hs, h1, h2⟩ := (tagB_iff s).1 h
  have := may_size h1
  have := may_size h2
  rw [hs, ByteArray.size_append, ByteArray.size_append]
  show k.size + 1 + v.size ≤ 49
  omega
/-- What an event is in which nothing is wrong. -/
structure OkE (s t : ByteArray) (tags : List ByteArray) (fl : List S50) : Prop where
  hs : mayL (bytesOf s) = true
  ht : mayL (bytesOf t) = true
  ht6 : tags.length ≤ 6
  hf4 : fl.length ≤ 4
  htag : ∀ x ∈ tags, tagB x = true
  hname : ∀ x ∈ fl, mayL (bytesOf x.f0) = true
  hr1 : riseB tags = true
  hr2 : riseB (fl.map (·.f0)) = true
  hov : ∀ x ∈ fl, -1099511627776 ≤ x.f1 ∧ x.f1 ≤ 1099511627776
theorem okE_iff (s t : ByteArray) (tags : List ByteArray) (fl : List S50) : mayE s t tags fl = 0 ↔ OkE s t tags fl := by
  unfold mayE
  constructor
  · intro h
    by_cases c1 : mayL (bytesOf s) = false ∨ mayL (bytesOf t) = false
    · rw [if_pos c1] at h; cases h
    rw [if_neg c1] at h
    by_cases c2 : 6 < tags.length ∨ 4 < fl.length
    · rw [if_pos c2] at h; cases h
    rw [if_neg c2] at h
    by_cases c3 : (tags.any fun s => !tagB s) = true ∨ ((fl.map (·.f0)).any fun s => !mayL (bytesOf s)) = true
    · rw [if_pos c3] at h; cases h
    rw [if_neg c3] at h
    by_cases c4 : riseB tags = false ∨ riseB (fl.map (·.f0)) = false ∨ fl.any overB = true
    · rw [if_pos c4] at h; cases h
    simp only [not_or, Bool.not_eq_false, Bool.not_eq_true] at c1 c3 c4
    refine ⟨c1.1, c1.2, by omega, by omega, fun x hx => ?_, fun x hx => ?_, c4.1, c4.2.1, fun x hx => ?_⟩
    · have := List.any_eq_false.1 c3.1 x hx; simpa using this
    · have := List.any_eq_false.1 c3.2 x.f0 (List.mem_map.2 ⟨x, hx, rfl⟩); simpa using this
    · have := List.any_eq_false.1 c4.2.2 x hx
      unfold overB at this
      rw [decide_eq_true_iff] at this
      omega
  · intro h
    rw [if_neg (by rw [h.hs, h.ht]; simp), if_neg (by have := h.ht6; have := h.hf4; omega), if_neg ?_, if_neg ?_]
    · rw [h.hr1, h.hr2]
      have : fl.any overB = false := List.any_eq_false.2 (fun x hx => by unfold overB; rw [decide_eq_true_iff]; have := h.hov x hx; omega)
      rw [this]; simp
    · rintro (c | c)
      · obtain ⟨x, hx, h2⟩ := List.any_eq_true.1 c
        rw [h.htag x hx] at h2; cases h2
      · obtain ⟨y, hy, h2⟩ := List.any_eq_true.1 c
        obtain ⟨x, hx, rfl⟩ := List.mem_map.1 hy
        rw [h.hname x hx] at h2; cases h2

theorem evcode_Put_l1 (s t : ByteArray) (tags : List ByteArray) (fl : List S50) (hf : fl.length ≤ 4) (hn : ∀ x ∈ fl, x.f0.size ≤ 24) (ho : ∀ x ∈ fl, -1099511627776 ≤ x.f1 ∧ x.f1 ≤ 1099511627776) : ∀ (n i k : Nat) (x : List Int), i + n = fl.length → n < k → x.length + 50 * n ≤ 140737488348000 → evcode_Put.l1 k x fl (fl.length : Int) (i : Int) = some (x ++ encFs (fl.drop i), 0) := by
  intro n
  induction n with
  | zero =>
    intro i k x hi hk hx
    obtain ⟨k, rfl⟩ : ∃ m, k = m + 1 := ⟨k - 1, by omega⟩
    rw [evcode_Put.l1, if_neg (by omega), List.drop_eq_nil_of_le (by omega)]
    unfold encFs; rw [List.flatMap_nil, List.append_nil]
  | succ n ih =>
    intro i k x hi hk hx
    obtain ⟨k, rfl⟩ : ∃ m, k = m + 1 := ⟨k - 1, by omega⟩
    have hm := rdF_mem (l := fl) (i := i) (by omega)
    have h1 := hn _ hm
    have h2 := ho _ hm
    have h3 := encT_len (rd_T50 fl (i : Int)).f0 (by omega)
    have h4 := enc_len (x := (rd_T50 fl (i : Int)).f1) ⟨by omega, by omega⟩
    have m1 : num_PutText.f x (rd_T50 fl (i : Int)).f0 = some (x ++ encT (bytesOf (rd_T50 fl (i : Int)).f0)) := if_pos (by omega)
    have m2 : num_Put.f (x ++ encT (bytesOf (rd_T50 fl (i : Int)).f0)) (rd_T50 fl (i : Int)).f1 = some ((x ++ encT (bytesOf (rd_T50 fl (i : Int)).f0)) ++ enc (rd_T50 fl (i : Int)).f1) := if_pos ⟨by rw [List.length_append]; omega, by omega, by omega⟩
    rw [evcode_Put.l1, if_pos (by omega), if_pos (by omega), if_pos (by omega), m1]
    simp only [Option.bind_some]
    rw [m2]
    simp only [Option.bind_some]
    rw [succW i (by omega), ih (i + 1) k _ (by omega) (by omega) (by rw [List.length_append, List.length_append]; omega), drop_rdF fl i (by omega)]
    unfold encFs; rw [List.flatMap_cons]; simp only [List.append_assoc]
theorem evcode_Put_l0 (s t : ByteArray) (tags : List ByteArray) (fl : List S50) (hf : fl.length ≤ 4) (ht : tags.length ≤ 6) (htg : ∀ x ∈ tags, x.size ≤ 49) (hn : ∀ x ∈ fl, x.f0.size ≤ 24) (ho : ∀ x ∈ fl, -1099511627776 ≤ x.f1 ∧ x.f1 ≤ 1099511627776) : ∀ (n i k : Nat) (x : List Int), i + n = tags.length → n + 5 < k → x.length + 60 * n ≤ 140737488347000 → evcode_Put.l0 k x tags (tags.length : Int) (i : Int) s t tags fl = some (x ++ (encTs (tags.drop i) ++ (enc (fl.length : Int) ++ encFs fl)), 0) := by
  intro n
  induction n with
  | zero =>
    intro i k x hi hk hx
    obtain ⟨k, rfl⟩ : ∃ m, k = m + 1 := ⟨k - 1, by omega⟩
    have h4 := enc_len (x := (fl.length : Int)) ⟨by omega, by omega⟩
    have m2 : num_Put.f x (fl.length : Int) = some (x ++ enc (fl.length : Int)) := if_pos ⟨by omega, by omega, by omega⟩
    rw [evcode_Put.l0, if_neg (by omega), m2, List.drop_eq_nil_of_le (by omega)]
    simp only [Option.bind_some]
    have := evcode_Put_l1 s t tags fl hf hn ho fl.length 0 k (x ++ enc (fl.length : Int)) (by omega) (by omega) (by rw [List.length_append]; omega)
    rw [List.drop_zero, List.append_assoc] at this
    exact this
  | succ n ih =>
    intro i k x hi hk hx
    obtain ⟨k, rfl⟩ : ∃ m, k = m + 1 := ⟨k - 1, by omega⟩
    have h1 := htg _ (rdOf_mem (l := tags) (i := i) (by omega))
    have h3 := encT_len (rdOf ByteArray.empty tags (i : Int)) (by omega)
    have m1 : num_PutText.f x (rdOf ByteArray.empty tags (i : Int)) = some (x ++ encT (bytesOf (rdOf ByteArray.empty tags (i : Int)))) := if_pos (by omega)
    rw [evcode_Put.l0, if_pos (by omega), if_pos (by omega), if_pos (by omega), m1]
    simp only [Option.bind_some]
    rw [succW i (by omega), ih (i + 1) k _ (by omega) (by omega) (by rw [List.length_append]; omega), drop_rd tags i (by omega)]
    unfold encTs; rw [List.flatMap_cons]; simp only [List.append_assoc]
def evcode_PutG.f (l0 : List Int) (a1_0 : ByteArray) (a1_1 : ByteArray) (l1_2 : List ByteArray) (l1_3 : List (S50)) : Option (List Int × Int) :=
  if l0.length ≤ 140737488340000 ∧ l1_2.length ≤ 9223372036854775807 ∧ fitE a1_0 a1_1 l1_2 l1_3 = true then some (if mayE a1_0 a1_1 l1_2 l1_3 = 0 then (l0 ++ encEv a1_0 a1_1 l1_2 l1_3, 0) else ([], mayE a1_0 a1_1 l1_2 l1_3)) else none
theorem evcode_PutG.val {l0 : List Int} {a1_0 : ByteArray} {a1_1 : ByteArray} {l1_2 : List ByteArray} {l1_3 : List (S50)} {r1 : List Int} {r2 : Int} (h : evcode_PutG.f l0 a1_0 a1_1 l1_2 l1_3 = some (r1, r2)) : ∃ k, evcode_Put.f k l0 a1_0 a1_1 l1_2 l1_3 = some (r1, r2) := by
  unfold evcode_PutG.f at h
  by_cases hc : l0.length ≤ 140737488340000 ∧ l1_2.length ≤ 9223372036854775807 ∧ fitE a1_0 a1_1 l1_2 l1_3 = true
  · rw [if_pos hc] at h
    rw [← h]
    have m0 : event_May.f a1_0 a1_1 l1_2 l1_3 = some (mayE a1_0 a1_1 l1_2 l1_3) := if_pos hc.2.2
    refine ⟨l1_2.length + 7, ?_⟩
    unfold evcode_Put.f
    rw [m0]
    simp only [Option.bind_some]
    by_cases h0 : mayE a1_0 a1_1 l1_2 l1_3 = 0
    · rw [if_pos h0, if_pos h0]
      have ok := (okE_iff _ _ _ _).1 h0
      have z1 := may_size ok.hs
      have z2 := may_size ok.ht
      have q1 := encT_len a1_0 (by omega)
      have q2 := encT_len a1_1 (by omega)
      have ht6 := ok.ht6
      have q3 := enc_len (x := (l1_2.length : Int)) ⟨by omega, by omega⟩
      have m1 : num_PutText.f l0 a1_0 = some (l0 ++ encT (bytesOf a1_0)) := if_pos (by omega)
      have m2 : num_PutText.f (l0 ++ encT (bytesOf a1_0)) a1_1 = some ((l0 ++ encT (bytesOf a1_0)) ++ encT (bytesOf a1_1)) := if_pos (by rw [List.length_append]; omega)
      have m3 : num_Put.f ((l0 ++ encT (bytesOf a1_0)) ++ encT (bytesOf a1_1)) (l1_2.length : Int) = some (((l0 ++ encT (bytesOf a1_0)) ++ encT (bytesOf a1_1)) ++ enc (l1_2.length : Int)) := if_pos ⟨by rw [List.length_append, List.length_append]; omega, by omega, by omega⟩
      rw [m1]
      simp only [Option.bind_some]
      rw [m2]
      simp only [Option.bind_some]
      rw [m3]
      simp only [Option.bind_some]
      have := evcode_Put_l0 a1_0 a1_1 l1_2 l1_3 ok.hf4 ht6 (fun x hx => tag_size (ok.htag x hx)) (fun x hx => may_size (ok.hname x hx)) ok.hov l1_2.length 0 (l1_2.length + 7) (((l0 ++ encT (bytesOf a1_0)) ++ encT (bytesOf a1_1)) ++ enc (l1_2.length : Int)) (by omega) (by omega) (by rw [List.length_append, List.length_append, List.length_append]; omega)
      rw [List.drop_zero] at this
      refine this.trans ?_
      unfold encEv
      simp only [List.append_assoc]
    · rw [if_neg h0, if_neg h0]
  · rw [if_neg hc] at h; cases h
theorem evcode_PutG.calls (A0 : Option Addr) (c0 : Nat) (l0 : List Int) (a1_0 : ByteArray) (a1_1 : ByteArray) (A1_2 : Option Addr) (c1_2 : Nat) (l1_2 : List ByteArray) (A1_3 : Option Addr) (c1_3 : Nat) (l1_3 : List (S50)) (r1 : List Int) (r2 : Int) (w : World) (hr0 : Kd.C (Kd.int .u8) w A0 l0.length l0) (hc0 : l0.length ≤ c0) (hr1_2 : Kd.C Kd.string w A1_2 l1_2.length l1_2) (hc1_2 : l1_2.length ≤ c1_2) (hr1_3 : Kd.C k50 w A1_3 l1_3.length l1_3) (hc1_3 : l1_3.length ≤ c1_3) (h : evcode_PutG.f l0 a1_0 a1_1 l1_2 l1_3 = some (r1, r2)) :
    Calls Try.prog 17 #[.slice A0 l0.length c0, .agg #[.string a1_0, .string a1_1, .slice A1_2 l1_2.length c1_2, .slice A1_3 l1_3.length c1_3]] w fun e w' => ∃ v0_ : Value, e = .returned (.tuple #[v0_, .int .i64 r2]) ∧ Kd.R (Kd.int .u8) 5 w' w.heap.size (fun _ => True) v0_ r1 ∧ Below w.heap.size w w' := by
  obtain ⟨k, hk⟩ := evcode_PutG.val h
  exact evcode_Put.calls k A0 c0 l0 a1_0 a1_1 A1_2 c1_2 l1_2 A1_3 c1_3 l1_3 r1 r2 w hr0 hc0 hr1_2 hc1_2 hr1_3 hc1_3 hk

end Go.Proofs.Ytafeakcajhhkoaa.Prt
namespace Go.Proofs.Ytafeakcajhhkoaa.Prt
open Go.RowKit Go.Proofs.YtafeakcajhhkoaaW.PrintWords Go.Proofs.YtafeakcajhhkoaaW.PrintLast Go.Proofs.YtafeakcajhhkoaaW.PrintMore Go.Proofs.Ytafeakcajhhkoaa.Num Go.Proofs.Ytafeakcajhhkoaa.Nam
set_option linter.unusedVariables false
set_option linter.unusedSimpArgs false

theorem enc_0 : enc 0 = [0] := by unfold enc zz; rw [if_neg (by omega), encN_lt (by decide)]; rfl
theorem enc_1 : enc 1 = [2] := by unfold enc zz; rw [if_neg (by omega), encN_lt (by decide)]; rfl
theorem may_one (c : Int) (h : plainC c = true) (h2 : notFirst c = false) : mayL [c] = true := by
  refine may_of ⟨by simp, by simp⟩ h2 ?_
  rw [lo1 h]; exact lettersOnly_nil
theorem ok_st : OkE (⟨#[115]⟩ : ByteArray) (⟨#[116]⟩ : ByteArray) [] [] :=
  ⟨may_one 115 (by decide) (by decide), may_one 116 (by decide) (by decide), by simp, by simp, fun x hx => by simp at hx, fun x hx => by simp at hx, rfl, rfl, fun x hx => by simp at hx⟩
theorem enc_st : encEv (⟨#[115]⟩ : ByteArray) (⟨#[116]⟩ : ByteArray) [] [] = [2, 115, 2, 116, 0, 0] := by
  show (enc 1 ++ [115]) ++ ((enc 1 ++ [116]) ++ ((enc 0 ++ []) ++ (enc 0 ++ []))) = _
  rw [enc_0, enc_1]; rfl
theorem putG_ok {l0 : List Int} {s t : ByteArray} {a : List ByteArray} {f : List S50} (hl : l0.length ≤ 140737488340000) (ha : a.length ≤ 9223372036854775807) (hf : fitE s t a f = true) :
    evcode_PutG.f l0 s t a f = some (if mayE s t a f = 0 then (l0 ++ encEv s t a f, 0) else ([], mayE s t a f)) := if_pos ⟨hl, ha, hf⟩
/-- Texts that fit in a machine. -/
def Fits (s t : ByteArray) (a : List ByteArray) (f : List S50) : Prop := s.size ≤ 9223372036854775807 ∧ t.size ≤ 9223372036854775807 ∧ (∀ x ∈ a, x.size ≤ 9223372036854775807) ∧ (∀ x ∈ f, x.f0.size ≤ 9223372036854775807)
theorem fit_few {s t : ByteArray} {a : List ByteArray} {f : List S50} (h : Fits s t a f) : fitE s t (a.take 12) (f.take 12) = true := by
  obtain ⟨h1, h2, h3, h4⟩ := h
  refine fitE_iff.2 ⟨h1, h2, fun x hx => h3 x (List.mem_of_mem_take hx), fun x hx => h4 x (List.mem_of_mem_take hx), ?_⟩
  rw [List.length_take]; omega
theorem take12 {α : Type} (l : List α) : (l.take 12).length ≤ 9223372036854775807 := by rw [List.length_take]; omega

theorem enc_part {x y : Int} (hx : i64 x) (hy : i64 y) {r r' : List Int} (h : enc x ++ r = enc y ++ r') : x = y ∧ r = r' := by
  have h1 := dec_enc hx r
  rw [h, dec_enc hy] at h1
  simp only [Option.some.injEq, Prod.mk.injEq] at h1
  exact ⟨h1.1.symm, h1.2.symm⟩
theorem encT_part {s t : ByteArray} (hs : s.size ≤ 9223372036854775807) (ht : t.size ≤ 9223372036854775807) {r r' : List Int} (h : encT (bytesOf s) ++ r = encT (bytesOf t) ++ r') : s = t ∧ r = r' := by
  have h1 := decT_encT (s := bytesOf s) (by rw [bytes_length]; exact hs) r
  rw [h, decT_encT (by rw [bytes_length]; exact ht)] at h1
  simp only [Option.some.injEq, Prod.mk.injEq] at h1
  exact ⟨(bytesOf_inj h1.1).symm, h1.2.symm⟩
theorem encTs_part : ∀ (a b : List ByteArray) (r r' : List Int), (∀ x ∈ a, x.size ≤ 9223372036854775807) → (∀ x ∈ b, x.size ≤ 9223372036854775807) → a.length = b.length → encTs a ++ r = encTs b ++ r' → a = b ∧ r = r'
  | [], [], r, r', _, _, _, h => ⟨rfl, h⟩
  | x :: a, y :: b, r, r', ha, hb, hl, h => by
    unfold encTs at h
    rw [List.flatMap_cons, List.flatMap_cons, List.append_assoc, List.append_assoc] at h
    obtain ⟨h1, h2⟩ := encT_part (ha x (by simp)) (hb y (by simp)) h
    obtain ⟨h3, h4⟩ := encTs_part a b r r' (fun z hz => ha z (by simp [hz])) (fun z hz => hb z (by simp [hz])) (by simpa using hl) h2
    exact ⟨by rw [h1, h3], h4⟩
  | [], _ :: _, _, _, _, _, hl, _ => by simp at hl
  | _ :: _, [], _, _, _, _, hl, _ => by simp at hl
theorem encFs_part : ∀ (a b : List S50) (r r' : List Int), (∀ x ∈ a, x.f0.size ≤ 9223372036854775807 ∧ i64 x.f1) → (∀ x ∈ b, x.f0.size ≤ 9223372036854775807 ∧ i64 x.f1) → a.length = b.length → encFs a ++ r = encFs b ++ r' → a = b ∧ r = r'
  | [], [], r, r', _, _, _, h => ⟨rfl, h⟩
  | x :: a, y :: b, r, r', ha, hb, hl, h => by
    unfold encFs at h
    rw [List.flatMap_cons, List.flatMap_cons, List.append_assoc, List.append_assoc, List.append_assoc, List.append_assoc] at h
    obtain ⟨h1, h2⟩ := encT_part (ha x (by simp)).1 (hb y (by simp)).1 h
    obtain ⟨h3, h4⟩ := enc_part (ha x (by simp)).2 (hb y (by simp)).2 h2
    obtain ⟨h5, h6⟩ := encFs_part a b r r' (fun z hz => ha z (by simp [hz])) (fun z hz => hb z (by simp [hz])) (by simpa using hl) h4
    refine ⟨?_, h6⟩
    rw [h5]
    congr 1
    cases x; cases y; simp_all
  | [], _ :: _, _, _, _, _, hl, _ => by simp at hl
  | _ :: _, [], _, _, _, _, hl, _ => by simp at hl
theorem OkE.sizes {s t : ByteArray} {a : List ByteArray} {f : List S50} (h : OkE s t a f) : s.size ≤ 9223372036854775807 ∧ t.size ≤ 9223372036854775807 ∧ (∀ x ∈ a, x.size ≤ 9223372036854775807) ∧ (∀ x ∈ f, x.f0.size ≤ 9223372036854775807 ∧ i64 x.f1) ∧ i64 (a.length : Int) ∧ i64 (f.length : Int) := by
  have h1 := may_size h.hs
  have h2 := may_size h.ht
  have h3 := h.ht6
  have h4 := h.hf4
  refine ⟨by omega, by omega, fun x hx => ?_, fun x hx => ⟨?_, ?_⟩, ⟨by omega, by omega⟩, ⟨by omega, by omega⟩⟩
  · have := tag_size (h.htag x hx); omega
  · have := may_size (h.hname x hx); omega
  · have := h.hov x hx; exact ⟨by omega, by omega⟩
theorem encEv_part {s t : ByteArray} {a : List ByteArray} {f : List S50} {s' t' : ByteArray} {a' : List ByteArray} {f' : List S50} (h : OkE s t a f) (h' : OkE s' t' a' f') {r r' : List Int}
    (he : encEv s t a f ++ r = encEv s' t' a' f' ++ r') : (s = s' ∧ t = t' ∧ a = a' ∧ f = f') ∧ r = r' := by
  obtain ⟨z1, z2, z3, z4, z5, z6⟩ := h.sizes
  obtain ⟨y1, y2, y3, y4, y5, y6⟩ := h'.sizes
  unfold encEv at he
  simp only [List.append_assoc] at he
  obtain ⟨e1, he⟩ := encT_part z1 y1 he
  obtain ⟨e2, he⟩ := encT_part z2 y2 he
  obtain ⟨e3, he⟩ := enc_part z5 y5 he
  obtain ⟨e4, he⟩ := encTs_part a a' _ _ z3 y3 (by omega) he
  obtain ⟨e5, he⟩ := enc_part z6 y6 he
  obtain ⟨e6, he⟩ := encFs_part f f' _ _ z4 y4 (by omega) he
  exact ⟨⟨e1, e2, e4, e6⟩, he⟩
theorem encTs_bytes (a : List ByteArray) : isBytes (encTs a) := by
  induction a with
  | nil => intro c hc; simp [encTs] at hc
  | cons x r ih =>
    have e : encTs (x :: r) = encT (bytesOf x) ++ encTs r := by unfold encTs; rw [List.flatMap_cons]
    rw [e]
    exact isBytes_append.2 ⟨isBytes_append.2 ⟨enc_bytes _, bytesOf_isBytes x⟩, ih⟩
theorem encFs_bytes (a : List S50) : isBytes (encFs a) := by
  induction a with
  | nil => intro c hc; simp [encFs] at hc
  | cons x r ih =>
    have e : encFs (x :: r) = (encT (bytesOf x.f0) ++ enc x.f1) ++ encFs r := by unfold encFs; rw [List.flatMap_cons]
    rw [e]
    exact isBytes_append.2 ⟨isBytes_append.2 ⟨isBytes_append.2 ⟨enc_bytes _, bytesOf_isBytes x.f0⟩, enc_bytes _⟩, ih⟩
theorem encEv_bytes (s t : ByteArray) (a : List ByteArray) (f : List S50) : isBytes (encEv s t a f) := by
  unfold encEv
  exact isBytes_append.2 ⟨isBytes_append.2 ⟨enc_bytes _, bytesOf_isBytes s⟩, isBytes_append.2 ⟨isBytes_append.2 ⟨enc_bytes _, bytesOf_isBytes t⟩, isBytes_append.2 ⟨isBytes_append.2 ⟨enc_bytes _, encTs_bytes a⟩, isBytes_append.2 ⟨enc_bytes _, encFs_bytes f⟩⟩⟩⟩
end Go.Proofs.Ytafeakcajhhkoaa.Prt
namespace Go.Proofs.Ytafeakcajhhkoaa.Prt
open Go.RowKit Go.Proofs.YtafeakcajhhkoaaW.PrintWords Go.Proofs.YtafeakcajhhkoaaW.PrintLast Go.Proofs.YtafeakcajhhkoaaW.PrintMore Go.Proofs.Ytafeakcajhhkoaa.Num Go.Proofs.Ytafeakcajhhkoaa.Nam
set_option linter.unusedVariables false
set_option linter.unusedSimpArgs false

theorem numOf_good {l : List Int} {b : Bool} (hb : isBytes l) (h : badOf l b = false) : b = false ∧ l = enc (numOf l) ++ aft l ∧ i64 (numOf l) := by
  unfold badOf at h
  cases hd : dec l with
  | none => rw [hd] at h; simp at h
  | some q =>
    obtain ⟨x, r⟩ := q
    rw [hd] at h
    obtain ⟨h1, h2⟩ := dec_sound hb hd
    have e1 : numOf l = x := by unfold numOf; rw [hd]
    have e2 : aft l = r := by unfold aft; rw [hd]
    rw [e1, e2]
    exact ⟨by simpa using h, h1, h2⟩
theorem textOf_good {l : List Int} {b : Bool} (hb : isBytes l) (h : badT l b = false) : b = false ∧ l = encT (bytesOf (textOf l)) ++ aftT l := by
  unfold badT at h
  cases hd : decT l with
  | none => rw [hd] at h; simp at h
  | some q =>
    obtain ⟨x, r⟩ := q
    rw [hd] at h
    obtain ⟨h1, h2⟩ := decT_sound hb hd
    have hx : isBytes x := by rw [h1] at hb; unfold encT at hb; exact (isBytes_append.1 (isBytes_append.1 hb).1).2
    have e1 : textOf l = strOfNums x := by unfold textOf; rw [hd]
    have e2 : aftT l = r := by unfold aftT; rw [hd]
    rw [e1, e2, bytesOf_strOfNums hx]
    exact ⟨by simpa using h, h1⟩
theorem encTs_snoc (a : List ByteArray) (x : ByteArray) : encTs (a ++ [x]) = encTs a ++ encT (bytesOf x) := by unfold encTs; simp
theorem encFs_snoc (a : List S50) (x : S50) : encFs (a ++ [x]) = encFs a ++ (encT (bytesOf x.f0) ++ enc x.f1) := by unfold encFs; simp
theorem takeTs_good (l : List Int) (b : Bool) (hb : isBytes l) : ∀ n, (takeTs n l b).2.2 = false → b = false ∧ l = encTs (takeTs n l b).1 ++ (takeTs n l b).2.1
  | 0, h => ⟨h, rfl⟩
  | n + 1, h => by
    simp only [takeTs] at h ⊢
    obtain ⟨h1, h2⟩ := textOf_good (takeTs_left l b hb n).1 h
    obtain ⟨h3, h4⟩ := takeTs_good l b hb n h1
    refine ⟨h3, ?_⟩
    rw [encTs_snoc, List.append_assoc, ← h2]; exact h4
theorem takeFs_good (l : List Int) (b : Bool) (hb : isBytes l) : ∀ n, (takeFs n l b).2.2 = false → b = false ∧ l = encFs (takeFs n l b).1 ++ (takeFs n l b).2.1
  | 0, h => ⟨h, rfl⟩
  | n + 1, h => by
    simp only [takeFs] at h ⊢
    have hy := (takeFs_left l b hb n).1
    obtain ⟨h1, h2, _⟩ := numOf_good (aftT_bytes hy) h
    obtain ⟨h3, h4⟩ := textOf_good hy h1
    obtain ⟨h5, h6⟩ := takeFs_good l b hb n h3
    refine ⟨h5, ?_⟩
    rw [encFs_snoc, List.append_assoc, List.append_assoc, ← h2, ← h4]; exact h6
/-- What is taken without an error stands there as bytes. -/
theorem takeE_good {l : List Int} {b : Bool} (hb : isBytes l) {x : S40} {l' : List Int} {b' : Bool} (h : takeE l b = (x, 0, l', b')) :
    b = false ∧ b' = false ∧ OkE x.f0 x.f1 x.f2 x.f3 ∧ l = encEv x.f0 x.f1 x.f2 x.f3 ++ l' := by
  unfold takeE at h
  simp only at h
  split at h
  · simp at h
  rename_i hn
  split at h
  · simp at h
  rename_i hm
  split at h
  · simp at h
  rename_i hr
  simp only [not_or, Bool.not_eq_true, ne_eq, Decidable.not_not] at hr
  obtain ⟨hr1, hr2⟩ := hr
  have hx := congrArg (fun z => z.1) h
  have hl := congrArg (fun z => z.2.2.1) h
  have hb2 := congrArg (fun z => z.2.2.2) h
  simp only at hx hl hb2
  clear h
  subst hx; subst hl; subst hb2
  refine ⟨?_, hr1, (okE_iff _ _ _ _).1 hr2, ?_⟩
  all_goals
    have y1 := aftT_bytes hb
    have y2 := aftT_bytes y1
    have y3 := aft_bytes y2
    obtain ⟨g1, g2⟩ := takeFs_good _ _ (aft_bytes (takeTs_left _ _ y3 _).1) _ hr1
    obtain ⟨g3, g4, g4'⟩ := numOf_good (takeTs_left _ _ y3 _).1 g1
    obtain ⟨g5, g6⟩ := takeTs_good _ _ y3 _ g3
    obtain ⟨g7, g8, g8'⟩ := numOf_good y2 g5
    obtain ⟨g9, g10⟩ := textOf_good y1 g7
    obtain ⟨g11, g12⟩ := textOf_good hb g9
  · exact g11
  · have e1 : ((takeTs (numOf (aftT (aftT l))).toNat (aft (aftT (aftT l))) (badOf (aftT (aftT l)) (badT (aftT l) (badT l b)))).1.length : Int) = numOf (aftT (aftT l)) := by rw [takeTs_len]; omega
    have e2 : ((takeFs (numOf (takeTs (numOf (aftT (aftT l))).toNat (aft (aftT (aftT l))) (badOf (aftT (aftT l)) (badT (aftT l) (badT l b)))).2.1).toNat (aft (takeTs (numOf (aftT (aftT l))).toNat (aft (aftT (aftT l))) (badOf (aftT (aftT l)) (badT (aftT l) (badT l b)))).2.1) (badOf (takeTs (numOf (aftT (aftT l))).toNat (aft (aftT (aftT l))) (badOf (aftT (aftT l)) (badT (aftT l) (badT l b)))).2.1 (takeTs (numOf (aftT (aftT l))).toNat (aft (aftT (aftT l))) (badOf (aftT (aftT l)) (badT (aftT l) (badT l b)))).2.2)).1.length : Int) = numOf (takeTs (numOf (aftT (aftT l))).toNat (aft (aftT (aftT l))) (badOf (aftT (aftT l)) (badT (aftT l) (badT l b)))).2.1 := by rw [takeFs_len]; omega
    unfold encEv
    simp only
    rw [e1, e2]
    simp only [List.append_assoc]
    rw [← g2, ← g4, ← g6, ← g8, ← g10]
    exact g12
/-- What was laid down is taken. -/
theorem textOf_enc {s : ByteArray} (hs : s.size ≤ 9223372036854775807) (r : List Int) (b : Bool) : textOf (encT (bytesOf s) ++ r) = s ∧ aftT (encT (bytesOf s) ++ r) = r ∧ badT (encT (bytesOf s) ++ r) b = b := by
  unfold textOf aftT badT
  rw [decT_encT (by rw [bytes_length]; exact hs)]
  exact ⟨strOfNums_bytesOf s, rfl, by simp⟩
theorem numOf_enc {x : Int} (h : i64 x) (r : List Int) (b : Bool) : numOf (enc x ++ r) = x ∧ aft (enc x ++ r) = r ∧ badOf (enc x ++ r) b = b := by
  unfold numOf aft badOf
  rw [dec_enc h]
  exact ⟨rfl, rfl, by simp⟩
theorem takeTs_enc (a : List ByteArray) (ha : ∀ x ∈ a, x.size ≤ 9223372036854775807) (r : List Int) (b : Bool) : ∀ n, n ≤ a.length → takeTs n (encTs a ++ r) b = (a.take n, encTs (a.drop n) ++ r, b)
  | 0, _ => by simp [takeTs]
  | n + 1, h => by
    have ih := takeTs_enc a ha r b n (by omega)
    have hd := drop_rd a n (by omega)
    have hx := ha _ (rdOf_mem (l := a) (i := n) (by omega))
    simp only [takeTs, ih]
    have e : encTs (a.drop n) ++ r = encT (bytesOf (rdOf ByteArray.empty a (n : Int))) ++ (encTs (a.drop (n + 1)) ++ r) := by
      rw [hd]; unfold encTs; rw [List.flatMap_cons, List.append_assoc]
    rw [e]
    obtain ⟨h1, h2, h3⟩ := textOf_enc hx (encTs (a.drop (n + 1)) ++ r) b
    rw [h1, h2, h3]
    refine Prod.ext ?_ rfl
    show a.take n ++ [rdOf ByteArray.empty a (n : Int)] = a.take (n + 1)
    rw [List.take_succ_eq_append_getElem (by omega)]
    unfold rdOf
    rw [Int.toNat_natCast, List.getD_eq_getElem?_getD, List.getElem?_eq_getElem (by omega)]; rfl
theorem takeFs_enc (a : List S50) (ha : ∀ x ∈ a, x.f0.size ≤ 9223372036854775807 ∧ i64 x.f1) (r : List Int) (b : Bool) : ∀ n, n ≤ a.length → takeFs n (encFs a ++ r) b = (a.take n, encFs (a.drop n) ++ r, b)
  | 0, _ => by simp [takeFs]
  | n + 1, h => by
    have ih := takeFs_enc a ha r b n (by omega)
    have hd := drop_rdF a n (by omega)
    have hx := ha _ (rdF_mem (l := a) (i := n) (by omega))
    simp only [takeFs, ih]
    have e : encFs (a.drop n) ++ r = encT (bytesOf (rd_T50 a (n : Int)).f0) ++ (enc (rd_T50 a (n : Int)).f1 ++ (encFs (a.drop (n + 1)) ++ r)) := by
      rw [hd]; unfold encFs; rw [List.flatMap_cons, List.append_assoc, List.append_assoc]
    rw [e]
    obtain ⟨h1, h2, h3⟩ := textOf_enc hx.1 (enc (rd_T50 a (n : Int)).f1 ++ (encFs (a.drop (n + 1)) ++ r)) b
    rw [h1, h2, h3]
    obtain ⟨h4, h5, h6⟩ := numOf_enc hx.2 (encFs (a.drop (n + 1)) ++ r) b
    rw [h4, h5, h6]
    refine Prod.ext ?_ rfl
    show a.take n ++ [⟨(rd_T50 a (n : Int)).f0, (rd_T50 a (n : Int)).f1⟩] = a.take (n + 1)
    rw [List.take_succ_eq_append_getElem (by omega)]
    unfold rd_T50
    rw [Int.toNat_natCast, List.getD_eq_getElem?_getD, List.getElem?_eq_getElem (by omega)]; rfl
theorem takeE_enc {s t : ByteArray} {a : List ByteArray} {f : List S50} (h : OkE s t a f) (r : List Int) : takeE (encEv s t a f ++ r) false = (⟨s, t, a, f⟩, 0, r, false) := by
  obtain ⟨z1, z2, z3, z4, z5, z6⟩ := h.sizes
  have h6 := h.ht6
  have h4 := h.hf4
  unfold encEv
  simp only [List.append_assoc]
  obtain ⟨a1, a2, a3⟩ := textOf_enc z1 (encT (bytesOf t) ++ (enc (a.length : Int) ++ (encTs a ++ (enc (f.length : Int) ++ (encFs f ++ r))))) false
  obtain ⟨b1, b2, b3⟩ := textOf_enc z2 (enc (a.length : Int) ++ (encTs a ++ (enc (f.length : Int) ++ (encFs f ++ r)))) false
  obtain ⟨c1, c2, c3⟩ := numOf_enc z5 (encTs a ++ (enc (f.length : Int) ++ (encFs f ++ r))) false
  have d := takeTs_enc a z3 (enc (f.length : Int) ++ (encFs f ++ r)) false a.length (Nat.le_refl _)
  rw [List.take_length, List.drop_length] at d
  have d' : takeTs a.length (encTs a ++ (enc (f.length : Int) ++ (encFs f ++ r))) false = (a, enc (f.length : Int) ++ (encFs f ++ r), false) := by rw [d]; simp [encTs]
  obtain ⟨e1, e2, e3⟩ := numOf_enc z6 (encFs f ++ r) false
  have g := takeFs_enc f z4 r false f.length (Nat.le_refl _)
  rw [List.take_length, List.drop_length] at g
  have g' : takeFs f.length (encFs f ++ r) false = (f, r, false) := by rw [g]; simp [encFs]
  unfold takeE
  simp only [a1, a2, a3, b1, b2, b3, c1, c2, c3]
  rw [if_neg (by omega), Int.toNat_natCast, d']
  simp only [e1, e2, e3]
  rw [if_neg (by omega), Int.toNat_natCast, g']
  simp only
  rw [if_neg (by rw [(okE_iff _ _ _ _).2 h]; simp)]
theorem encEv_pos (s t : ByteArray) (a : List ByteArray) (f : List S50) : 1 ≤ (encEv s t a f).length := by
  unfold encEv encT
  have := enc_pos ((bytesOf s).length : Int)
  simp only [List.length_append]; omega
/-- All events taken. -/
def takeAll : Nat → List Int → List S40 → List S40 × Int
  | 0, _, acc => (acc, 0)
  | k + 1, l, acc => if l.length = 0 then (acc, 0) else if (takeE l false).2.1 = 0 then takeAll k (takeE l false).2.2.1 (acc ++ [(takeE l false).1]) else ([], (takeE l false).2.1)
end Go.Proofs.Ytafeakcajhhkoaa.Prt
namespace Go.Proofs.Ytafeakcajhhkoaa.Prt
open Go.RowKit Go.Proofs.YtafeakcajhhkoaaW.PrintWords Go.Proofs.YtafeakcajhhkoaaW.PrintLast Go.Proofs.YtafeakcajhhkoaaW.PrintMore Go.Proofs.Ytafeakcajhhkoaa.Num Go.Proofs.Ytafeakcajhhkoaa.Nam
set_option linter.unusedVariables false
set_option linter.unusedSimpArgs false

theorem info_event : (Try.prog.info? 40).map (fun i => (i.zero, i.size, i.bytes)) = some (some (.agg #[.string ⟨#[]⟩, .string ⟨#[]⟩, .slice none 0 0, .slice none 0 0]), 4, 80) := by kernel_rfl
/-- A row of events across a call that turns a reader alone. -/
theorem S_turn {w w1 : World} {base g t : Nat} {v : Value} {xs : List S40} {cells : Array Value} (h : Kd.S k40 40 w base (fun _ => True) v xs) (hb : w.heap[g]? = some (.cells cells t (0, 0))) (ht : ∀ q, q ∈ 40 :: (k40).E → q ≠ t) (hk : KeepBut w w1 g none) : Kd.S k40 40 w1 base (fun k => k < w.heap.size) v xs :=
  Kd.S_mono (Kd.S_keep (Kd.S_bound (Kd.S_types h hb ht)) hk (fun k hk => hk.1.2)) (fun k hk => hk.2.2.1)
theorem takeAll_fuel : ∀ (k : Nat) (l : List Int) (acc : List S40), l.length = 0 → takeAll (k + 1) l acc = (acc, 0) := fun k l acc h => by rw [takeAll, if_pos h]
theorem all_calls (A0 : Option Addr) (c0 : Nat) (l0 : List Int) (w : World) (hr0 : Kd.C (Kd.int .u8) w A0 l0.length l0) (hc0 : l0.length ≤ c0) (hby : isBytes l0) (hlen : l0.length ≤ 1000000000000) (r1 : List S40) (r2 : Int) (h : takeAll (l0.length + 1) l0 [] = (r1, r2)) :
    Calls Try.prog 28 #[.slice A0 l0.length c0] w fun e w' => ∃ v0_ : Value, e = .returned (.tuple #[v0_, .int .i64 r2]) ∧ Kd.S k40 40 w' w.heap.size (fun _ => True) v0_ r1 ∧ Below w.heap.size w w' := by
  have HNR := Aside0.mk (newReader_calls A0 c0 l0 w hr0 hc0)
  have HBY := Aside0.mk hby
  have HH := Aside0.mk h
  clear hr0 hc0 hby h
  have hu40 := Try.underlying40
  go_enter Try.func28, Try.ntmps28
  go_wp2_with fail
  refine HNR.out.mono ?_
  rintro e w1 ⟨g, rfl, hI, hb, hg⟩
  have HI := Aside0.mk hI
  have HB := Aside0.mk hb
  have HG := Aside0.mk hg
  clear hI hb hg HNR
  go_wp2_with fail
  go_loopg [5] (l0.length + 1) (fun k v5 w' => ∃ (l : List Int) (acc : List S40), Aside0 (takeAll k l acc = (r1, r2)) ∧ Aside0 (l.length < k) ∧ Aside0 (acc.length + l.length ≤ l0.length) ∧ Aside0 (isBytes l) ∧ Aside0 (Rd 72 (fun k => k < w.heap.size) w' g l false) ∧ Aside0 (Kd.S k40 40 w' w.heap.size (fun _ => True) v5 acc) ∧ Aside0 (Below w.heap.size w w'))
  case atStart => exact ⟨l0, [], HH, ⟨by omega⟩, ⟨by simp⟩, HBY, HI, ⟨Kd.S_nil _ _ _ _ _⟩, HB⟩
  case round =>
    clear HH HI HB
    obtain ⟨l, acc, HH, HK, HL, HBY, HI, HS, HB⟩ := hrel
    obtain ⟨A, c, e5, _, _⟩ := Kd.S_reads HS.out
    subst e5
    go_wp2_with fail
    refine (left_calls _ wr g l false HI.out).mono ?_
    rintro e w2 ⟨rfl, rfl⟩
    obtain ⟨k, rfl⟩ : ∃ m, gk = m + 1 := ⟨gk - 1, by have := HK.out; omega⟩
    by_cases hl : l.length = 0
    · have hd : decide ((0 : Int) < (l.length : Int)) = false := decide_eq_false (by omega)
      have HE := Aside0.mk ((takeAll_fuel k l acc hl).symm.trans HH.out)
      go_wp2
      go_ret2
      have he := HE.out
      simp only [Prod.mk.injEq] at he
      obtain ⟨rfl, rfl⟩ := he
      exact ⟨_, rfl, HS.out, HB.out⟩
    have hd : decide ((0 : Int) < (l.length : Int)) = true := decide_eq_true (by omega)
    obtain ⟨x, c1, l', b', hx⟩ : ∃ x c1 l' b', takeE l false = (x, c1, l', b') := ⟨_, _, _, _, rfl⟩
    have HX := Aside0.mk hx
    have HT := Aside0.mk (take_walk _ wr g l false HI.out HBY.out (fun k hk => Nat.lt_of_lt_of_le hk HB.out.size) x c1 l' b' hx)
    clear hx
    go_wp2_with fail
    refine HT.out.mono ?_
    rintro e w2 ⟨v2, v3, rfl, h2, h3, hI, hby, hb, hk⟩
    have HS2 : Aside0 (Kd.S k40 40 w2 w.heap.size (fun k => k < wr.heap.size) (.slice A acc.length c) acc) := ⟨by
      obtain ⟨A', c', hblk, _⟩ := HI.out
      exact S_turn HS.out hblk (by decide) hk⟩
    have H2 := Aside0.mk h2
    have H3 := Aside0.mk h3
    have HI2 := Aside0.mk hI
    have HBY2 := Aside0.mk hby
    have HB2 := Aside0.mk (HB.out.trans (hb.mono HG.out))
    have HSZ := Aside0.mk hk.1
    have HWR := Aside0.mk HB.out.size
    have HBYL := Aside0.mk HBY.out
    clear h2 h3 hI hby hb hk HI HS HB HBY HT
    obtain ⟨A2, c2, e2⟩ := Kd.R_slice H2.out
    subst e2
    obtain ⟨A3, c3, e3⟩ := Kd.R_slice H3.out
    subst e3
    go_upto_region 5 with (first | ((with_reducible refine gate_dst (N := 6) rfl ?_); refine box_event ?hg (N := 6) ?hd (cs := #[.string (⟨#[]⟩ : ByteArray), .string (⟨#[]⟩ : ByteArray), .slice none 0 0, .slice none 0 0]) (t := 40) ?hr ?_; (case hd => rfl); (case hg => rfl); (case hr => first | (go_simp; done) | (go_simp; rfl)); intro B hgB w3 hbox hb; have HBX := Aside0.mk hbox; have HBN := Aside0.mk hgB; have n1_ := Aside0.mk (Kd.S_below HS2.out hb); have n2_ := Aside0.mk (Kd.R_below H2.out hb); have n3_ := Aside0.mk (Kd.R_below H3.out hb); have n4_ := Aside0.mk (HI2.out.below hb); have n5_ := Aside0.mk (below_step HB2.out hb); have HGB := Aside0.mk (show g ≠ B by have := HI2.out.lt; omega); clear HS2 H2 H3 HI2 HB2 hbox hgB hb; have HS2 := n1_; have H2 := n2_; have H3 := n3_; have HI2 := n4_; have HB2 := n5_; clear n1_ n2_ n3_ n4_ n5_; have hq0 := blk_cell HBX.out 0; have hq1 := blk_cell HBX.out 1; have hq2 := blk_cell HBX.out 2; have hq3 := blk_cell HBX.out 3; have hf0 := blk_frozen HBX.out 0; have hf1 := blk_frozen HBX.out 1; have hf2 := blk_frozen HBX.out 2; have hf3 := blk_frozen HBX.out 3))
    have HBG : Aside0 (wr.heap.size ≤ B ∧ w.heap.size ≤ B) := ⟨by have := HBN.out; have := HSZ.out; have := HWR.out; omega⟩
    have n1_ := Aside0.mk (Kd.S_far (p := ⟨B, 3, none⟩) (Kd.S_far (p := ⟨B, 2, none⟩) (Kd.S_far (p := ⟨B, 1, none⟩) (Kd.S_far (p := ⟨B, 0, none⟩) HS2.out (fun k hk => by have := HBG.out.1; show k ≠ B; omega) (.string x.f0)) (fun k hk => by have := HBG.out.1; show k ≠ B; omega) (.string x.f1)) (fun k hk => by have := HBG.out.1; show k ≠ B; omega) (.slice A2 x.f2.length c2)) (fun k hk => by have := HBG.out.1; show k ≠ B; omega) (.slice A3 x.f3.length c3))
    have n2_ := Aside0.mk (R_set4 H2.out HBX.out (by decide) (.string x.f0) (.string x.f1) (.slice A2 x.f2.length c2) (.slice A3 x.f3.length c3))
    have n3_ := Aside0.mk (R_set4 H3.out HBX.out (by decide) (.string x.f0) (.string x.f1) (.slice A2 x.f2.length c2) (.slice A3 x.f3.length c3))
    have n4_ := Aside0.mk ((((HI2.out.kept ((KeepBut.refl _ B none).set_ 0 (.string x.f0)) HGB.out (by have := HBG.out.2; omega)).kept ((KeepBut.refl _ B none).set_ 1 (.string x.f1)) HGB.out (by have := HBG.out.2; omega)).kept ((KeepBut.refl _ B none).set_ 2 (.slice A2 x.f2.length c2)) HGB.out (by have := HBG.out.2; omega)).kept ((KeepBut.refl _ B none).set_ 3 (.slice A3 x.f3.length c3)) HGB.out (by have := HBG.out.2; omega))
    have n5_ := Aside0.mk ((((HB2.out.setCell (p := ⟨B, 0, none⟩) HBG.out.2 (.string x.f0)).setCell (p := ⟨B, 1, none⟩) HBG.out.2 (.string x.f1)).setCell (p := ⟨B, 2, none⟩) HBG.out.2 (.slice A2 x.f2.length c2)).setCell (p := ⟨B, 3, none⟩) HBG.out.2 (.slice A3 x.f3.length c3))
    have n6_ := Aside0.mk (blk_put (cs' := #[.string x.f0, .string x.f1, .slice A2 x.f2.length c2, .slice A3 x.f3.length c3]) (blk_put (cs' := #[.string x.f0, .string x.f1, .slice A2 x.f2.length c2, .slice none 0 0]) (blk_put (cs' := #[.string x.f0, .string x.f1, .slice none 0 0, .slice none 0 0]) (blk_put (cs' := #[.string x.f0, .string ⟨#[]⟩, .slice none 0 0, .slice none 0 0]) HBX.out 0 (.string x.f0) rfl) 1 (.string x.f1) rfl) 2 (.slice A2 x.f2.length c2) rfl) 3 (.slice A3 x.f3.length c3) rfl)
    clear HS2 H2 H3 HI2 HB2 HBX hq0 hq1 hq2 hq3 hf0 hf1 hf2 hf3
    generalize (((w3.setCell ⟨B, 0, none⟩ (.string x.f0)).setCell ⟨B, 1, none⟩ (.string x.f1)).setCell ⟨B, 2, none⟩ (.slice A2 x.f2.length c2)).setCell ⟨B, 3, none⟩ (.slice A3 x.f3.length c3) = w4 at n1_ n2_ n3_ n4_ n5_ n6_ ⊢
    by_cases hc1 : c1 = 0
    · have hbn : (c1 != 0) = false := bne_eq_false_iff_eq.mpr hc1
      have HC1 := Aside0.mk hc1
      have hq0 := blk_cell n6_.out 0
      have hq1 := blk_cell n6_.out 1
      have hq2 := blk_cell n6_.out 2
      have hq3 := blk_cell n6_.out 3
      clear hc1
      have HGD := Aside0.mk (takeE_good HBYL.out (by rw [HX.out, HC1.out] : takeE l false = (x, 0, l', b')))
      have HLEN : Aside0 (acc.length ≤ 1000000000000) := ⟨by have := HL.out; omega⟩
      have hlen2 := HLEN.out
      have HAP : Aside0 (∀ k, wr.heap.size ≤ k → True ∧ some k ≠ (Value.slice A acc.length c).ownBlock) := ⟨fun k hk => ⟨trivial, fun e_ => by have h_ := (Kd.S_R n1_.out).1 k e_.symm; omega⟩⟩
      have HAQ : Aside0 (Kd.S k40 40 w4 w.heap.size (fun k => True ∧ ¬ wr.heap.size ≤ k) (.slice A acc.length c) acc) := ⟨Kd.S_mono n1_.out (fun k hk => ⟨trivial, by omega⟩)⟩
      have HMK : Aside0 ((k40).M w4 w.heap.size (fun k => wr.heap.size ≤ k) x [.string x.f0, .string x.f1, .slice A2 x.f2.length c2, .slice A3 x.f3.length c3]) := ⟨k40_mkM _ _ _ x (Kd.R_lower (Kd.R_mono (Kd.R_bound n2_.out) (fun k hk => hk.2.1)) HWR.out) (Kd.R_lower (Kd.R_mono (Kd.R_bound n3_.out) (fun k hk => hk.2.1)) HWR.out)⟩
      go_wp2_with (first | ((with_reducible refine gate_builtin (b := .append) (xs := #[.tmp 21, .tmp 23]) rfl ?_); at_builtin; refine Kd.S_append k40 (w0 := w) w.heap.size rfl (.tmp 21) (.tmp 23) 22 40 (.agg #[.string ⟨#[]⟩, .string ⟨#[]⟩, .slice none 0 0, .slice none 0 0]) 80 rfl Try.underlying22 info_event rfl (by decide) (by omega) (.slice A acc.length c) acc x [.string x.f0, .string x.f1, .slice A2 x.f2.length c2, .slice A3 x.f3.length c3] (fun _ => True) (fun k => wr.heap.size ≤ k) rfl rfl HMK.out HAP.out (fun _ _ => trivial) HAQ.out n5_.out n5_.out.size (by omega) ?_; intro v w5 ho hb hg hat; have HO := Aside0.mk ho; have HBl := Aside0.mk hb; have HGR := Aside0.mk hg; clear ho hb hg hat))
      have hl2 : l'.length < l.length := by
        have h := congrArg List.length HGD.out.2.2.2
        have := encEv_pos x.f0 x.f1 x.f2 x.f3
        rw [List.length_append] at h; omega
      have HL2 := Aside0.mk hl2
      clear hl2
      go_roundg k
      case measure => omega
      case rel =>
        refine ⟨l', acc ++ [x], ⟨?_⟩, ⟨by have := HL2.out; have := HK.out; omega⟩, ⟨by have := HL2.out; have := HL.out; rw [List.length_append, List.length_singleton]; omega⟩, HBY2, ⟨?_⟩, HO, HBl⟩
        · have h := HH.out
          rw [takeAll, if_neg hl, HX.out] at h
          simp only at h
          rw [if_pos HC1.out] at h
          exact h
        · have h := n4_.out.grown HGR.out (by obtain ⟨A', c', hblk, _⟩ := n4_.out; exact Kd.S_ne n1_.out hblk (by decide)) (fun k hk => ne_base (Kd.S_base n1_.out) hk)
          rw [HGD.out.2.1] at h
          exact h
    · have hbn : (c1 != 0) = true := bne_iff_ne.mpr hc1
      have HE : Aside0 (r1 = [] ∧ r2 = c1) := ⟨by
        have h := HH.out
        rw [takeAll, if_neg hl, HX.out] at h
        simp only at h
        rw [if_neg hc1] at h
        simp only [Prod.mk.injEq] at h
        exact ⟨h.1.symm, h.2.symm⟩⟩
      clear hc1
      go_wp2
      go_ret2
      obtain ⟨rfl, rfl⟩ := HE.out
      exact ⟨_, rfl, Kd.S_nil _ _ _ _ _, n5_.out⟩
end Go.Proofs.Ytafeakcajhhkoaa.Prt
namespace Go.Proofs.Ytafeakcajhhkoaa.Prt
open Go.RowKit Go.Proofs.YtafeakcajhhkoaaW.PrintWords Go.Proofs.YtafeakcajhhkoaaW.PrintLast Go.Proofs.YtafeakcajhhkoaaW.PrintMore Go.Proofs.Ytafeakcajhhkoaa.Num Go.Proofs.Ytafeakcajhhkoaa.Nam
set_option linter.unusedVariables false
set_option linter.unusedSimpArgs false

def byteB (l : List Int) : Bool := l.all fun c => decide (0 ≤ c ∧ c < 256)
theorem byteB_iff {l : List Int} : byteB l = true ↔ isBytes l := by
  unfold byteB isBytes
  simp only [List.all_eq_true, decide_eq_true_eq]
end Go.Proofs.Ytafeakcajhhkoaa.Prt
namespace Go.Proofs.Ytafeakcajhhkoaa.Prt
open Go.RowKit Go.Proofs.YtafeakcajhhkoaaW.PrintWords Go.Proofs.YtafeakcajhhkoaaW.PrintLast Go.Proofs.YtafeakcajhhkoaaW.PrintMore Go.Proofs.Ytafeakcajhhkoaa.Num Go.Proofs.Ytafeakcajhhkoaa.Nam
set_option linter.unusedVariables false
set_option linter.unusedSimpArgs false

def OkX (x : S40) : Prop := OkE x.f0 x.f1 x.f2 x.f3
def encX (x : S40) : List Int := encEv x.f0 x.f1 x.f2 x.f3
def encEs (l : List S40) : List Int := l.flatMap encX
theorem encEs_cons (x : S40) (l : List S40) : encEs (x :: l) = encX x ++ encEs l := by unfold encEs; rw [List.flatMap_cons]
theorem encX_pos (x : S40) : 1 ≤ (encX x).length := encEv_pos _ _ _ _
theorem encEs_bytes (l : List S40) : isBytes (encEs l) := by
  induction l with
  | nil => intro c hc; simp [encEs] at hc
  | cons x r ih => rw [encEs_cons]; exact isBytes_append.2 ⟨encEv_bytes _ _ _ _, ih⟩
theorem encTs_size (a : List ByteArray) (h : ∀ x ∈ a, x.size ≤ 49) : (encTs a).length ≤ 59 * a.length := by
  induction a with
  | nil => simp [encTs]
  | cons x r ih =>
    have e : encTs (x :: r) = encT (bytesOf x) ++ encTs r := by unfold encTs; rw [List.flatMap_cons]
    have h1 := h x (by simp)
    have h2 := encT_len x (by omega)
    have h3 := ih (fun z hz => h z (by simp [hz]))
    rw [e, List.length_append, List.length_cons]; omega
theorem encFs_size (a : List S50) (h : ∀ x ∈ a, x.f0.size ≤ 24 ∧ i64 x.f1) : (encFs a).length ≤ 44 * a.length := by
  induction a with
  | nil => simp [encFs]
  | cons x r ih =>
    have e : encFs (x :: r) = (encT (bytesOf x.f0) ++ enc x.f1) ++ encFs r := by unfold encFs; rw [List.flatMap_cons]
    have h1 := (h x (by simp)).1
    have h2 := encT_len x.f0 (by omega)
    have h4 := enc_len (h x (by simp)).2
    have h3 := ih (fun z hz => h z (by simp [hz]))
    rw [e, List.length_append, List.length_append, List.length_cons]; omega
theorem encX_size {x : S40} (h : OkX x) : (encX x).length ≤ 700 := by
  have z1 := may_size h.hs
  have z2 := may_size h.ht
  have h6 := h.ht6
  have h4 := h.hf4
  have q1 := encT_len x.f0 (by omega)
  have q2 := encT_len x.f1 (by omega)
  have q3 := enc_len (x := (x.f2.length : Int)) ⟨by omega, by omega⟩
  have q4 := enc_len (x := (x.f3.length : Int)) ⟨by omega, by omega⟩
  have q5 := encTs_size x.f2 (fun y hy => tag_size (h.htag y hy))
  have q6 := encFs_size x.f3 (fun y hy => ⟨may_size (h.hname y hy), by have := h.hov y hy; exact ⟨by omega, by omega⟩⟩)
  unfold encX encEv
  simp only [List.length_append]
  omega
theorem encEs_size (l : List S40) (h : ∀ x ∈ l, OkX x) : (encEs l).length ≤ 700 * l.length := by
  induction l with
  | nil => simp [encEs]
  | cons x r ih =>
    have h1 := encX_size (h x (by simp))
    have h3 := ih (fun z hz => h z (by simp [hz]))
    rw [encEs_cons, List.length_append, List.length_cons]; omega
theorem encEs_long (l : List S40) : l.length ≤ (encEs l).length := by
  induction l with
  | nil => simp [encEs]
  | cons x r ih =>
    have := encX_pos x
    rw [encEs_cons, List.length_append, List.length_cons]; omega
theorem takeE_ok {x : S40} (h : OkX x) (r : List Int) : takeE (encX x ++ r) false = (x, 0, r, false) := takeE_enc h r
/-- What was laid down is taken, one and all. -/
theorem takeAll_enc (g : List S40) : ∀ (k : Nat) (acc : List S40), (∀ x ∈ g, OkX x) → g.length < k → takeAll k (encEs g) acc = (acc ++ g, 0) := by
  induction g with
  | nil =>
    intro k acc h hk
    obtain ⟨k, rfl⟩ : ∃ m, k = m + 1 := ⟨k - 1, by omega⟩
    simp [takeAll, encEs]
  | cons x r ih =>
    intro k acc h hk
    rw [List.length_cons] at hk
    obtain ⟨k, rfl⟩ : ∃ m, k = m + 1 := ⟨k - 1, by omega⟩
    have := encX_pos x
    rw [takeAll, encEs_cons, if_neg (by rw [List.length_append]; omega), takeE_ok (h x (by simp))]
    simp only [if_true]
    rw [ih k _ (fun z hz => h z (by simp [hz])) (by omega), List.append_assoc]; rfl
/-- What is taken without an error stands there as bytes, one and all. -/
theorem takeAll_good : ∀ (k : Nat) (l : List Int) (acc r : List S40), isBytes l → l.length < k → takeAll k l acc = (r, 0) → ∃ g, r = acc ++ g ∧ (∀ x ∈ g, OkX x) ∧ l = encEs g := by
  intro k
  induction k with
  | zero => intro l acc r hb hk; omega
  | succ k ih =>
    intro l acc r hb hk h
    rw [takeAll] at h
    by_cases h0 : l.length = 0
    · rw [if_pos h0] at h
      refine ⟨[], ?_, fun x hx => by simp at hx, ?_⟩
      · rw [List.append_nil]; exact (congrArg (·.1) h).symm
      · exact List.eq_nil_of_length_eq_zero h0
    rw [if_neg h0] at h
    by_cases h1 : (takeE l false).2.1 = 0
    · rw [if_pos h1] at h
      obtain ⟨⟨x, c, l', b'⟩, e⟩ : ∃ q, takeE l false = q := ⟨_, rfl⟩
      rw [e] at h h1
      simp only at h h1
      subst h1
      obtain ⟨g1, g2, g3, g4⟩ := takeE_good hb e
      have hp := encEv_pos x.f0 x.f1 x.f2 x.f3
      have hb' : isBytes l' := by rw [g4] at hb; exact (isBytes_append.1 hb).2
      obtain ⟨g, e1, e2, e3⟩ := ih l' (acc ++ [x]) r hb' (by rw [g4, List.length_append] at hk; omega) h
      refine ⟨x :: g, by rw [e1, List.append_assoc]; rfl, ?_, ?_⟩
      · intro y hy
        rcases List.mem_cons.1 hy with rfl | hy
        · exact g3
        · exact e2 y hy
      · rw [encEs_cons, g4, e3]; rfl
    · rw [if_neg h1] at h
      exact absurd (congrArg (·.2) h) h1
end Go.Proofs.Ytafeakcajhhkoaa.Prt
namespace Go.Proofs.Ytafeakcajhhkoaa.Prt
open Go.RowKit Go.Proofs.YtafeakcajhhkoaaW.PrintWords Go.Proofs.YtafeakcajhhkoaaW.PrintLast Go.Proofs.YtafeakcajhhkoaaW.PrintMore Go.Proofs.Ytafeakcajhhkoaa.Num Go.Proofs.Ytafeakcajhhkoaa.Nam
set_option linter.unusedVariables false
set_option linter.unusedSimpArgs false

def evE (x : S40) : Int := mayE x.f0 x.f1 x.f2 x.f3
/-- What is wrong with the first event with which something is. -/
def firstE : List S40 → Int
  | [] => 0
  | x :: r => if evE x = 0 then firstE r else evE x
/-- What is wrong with a batch. -/
def mayB (a : Int) (l : List S40) : Int := if l.length = 0 then 22 else if 16 < l.length then 3 else if firstE l ≠ 0 then firstE l else if a < 0 ∨ 1048576 - (l.length : Int) < a then 1 else 0
def fitX (x : S40) : Bool := fitE x.f0 x.f1 x.f2 x.f3
theorem drop_rdE' (l : List S40) (i : Nat) (h : i < l.length) : l.drop i = rd_T40 l (i : Int) :: l.drop (i + 1) := by
  rw [List.drop_eq_getElem_cons h]
  unfold rd_T40
  rw [Int.toNat_natCast, List.getD_eq_getElem?_getD, List.getElem?_eq_getElem h]; rfl
theorem rdE_mem' {l : List S40} {i : Nat} (h : i < l.length) : rd_T40 l (i : Int) ∈ l := getD_mem' h _
theorem firstE_yes {l : List S40} {i : Nat} (h : i < l.length) (h0 : evE (rd_T40 l (i : Int)) = 0) : firstE (l.drop i) = firstE (l.drop (i + 1)) := by rw [drop_rdE' l i h, firstE, if_pos h0]
theorem firstE_no {l : List S40} {i : Nat} (h : i < l.length) (h0 : evE (rd_T40 l (i : Int)) ≠ 0) : firstE (l.drop i) = evE (rd_T40 l (i : Int)) := by rw [drop_rdE' l i h, firstE, if_neg h0]
theorem batchMay_calls (a : Int) (A : Option Addr) (c : Nat) (l : List S40) (w : World) (hr : Kd.C k40 w A l.length l) (hc : l.length ≤ c) (hf : ∀ x ∈ l, fitX x = true) :
    Calls Try.prog 13 #[.agg #[.int .i64 a, .slice A l.length c]] w fun e w' => e = .returned (.int .i64 (mayB a l)) ∧ Below w.heap.size w w' := by
  have hu24 := Try.underlying24
  have hu40 := Try.underlying40
  have HR := Aside0.mk hr
  have HC := Aside0.mk hc
  have HF := Aside0.mk hf
  have HB := Aside0.mk (Below.refl w.heap.size w)
  have hm := Kd.C_max hr
  clear hr hc hf
  obtain ⟨E, hE⟩ : ∃ E, E = mayB a l := ⟨_, rfl⟩
  rw [← hE]
  have HE := Aside0.mk hE
  clear hE
  go_enter Try.func13, Try.ntmps13
  by_cases h0 : l.length = 0
  · have d1 : ((l.length : Int) == 0) = true := beq_iff_eq.mpr (by omega)
    have HG := Aside0.mk (HE.out.trans (if_pos h0))
    clear h0
    go_wp2_with (first | ((with_reducible refine gate_dst (N := 1) rfl ?_); (try (refine gate_guard (by rfl) ?_; dsimp only)); refine box_event ?hg (N := 1) ?hd (cs := #[.int .i64 a, .slice A l.length c]) (t := 24) ?hr ?_; (case hd => rfl); (case hg => rfl); (case hr => first | (go_simp; done) | (go_simp; rfl)); intro g hg_ w2 hbox_ hb_; have HBX := Aside0.mk hbox_; have HBN := Aside0.mk hg_; have HBB := Aside0.mk hb_; clear hbox_ hg_ hb_; have hc0 := blk_cell HBX.out 0; have hf0 := blk_frozen HBX.out 0; have hc1 := blk_cell HBX.out 1; have hf1 := blk_frozen HBX.out 1))
    go_step3
    go_wp2
    try rw [Exit.noGoto_ret]
    go_ret
    exact ⟨ret_i64 HG.out.symm, below_step HB.out HBB.out⟩
  have d1 : ((l.length : Int) == 0) = false := beq_eq_false_iff_ne.mpr (by omega)
  have d1b : ¬ (l = []) := fun h => h0 (by rw [h]; rfl)
  by_cases h1 : 16 < l.length
  · have d2 : decide ((16 : Int) < (l.length : Int)) = true := decide_eq_true (by omega)
    have d2b : decide (16 < l.length) = true := decide_eq_true h1
    have HG := Aside0.mk (HE.out.trans ((if_neg h0).trans (if_pos h1)))
    clear h0
    go_wp2_with (first | ((with_reducible refine gate_dst (N := 1) rfl ?_); (try (refine gate_guard (by rfl) ?_; dsimp only)); refine box_event ?hg (N := 1) ?hd (cs := #[.int .i64 a, .slice A l.length c]) (t := 24) ?hr ?_; (case hd => rfl); (case hg => rfl); (case hr => first | (go_simp; done) | (go_simp; rfl)); intro g hg_ w2 hbox_ hb_; have HBX := Aside0.mk hbox_; have HBN := Aside0.mk hg_; have HBB := Aside0.mk hb_; clear hbox_ hg_ hb_; have hc0 := blk_cell HBX.out 0; have hf0 := blk_frozen HBX.out 0; have hc1 := blk_cell HBX.out 1; have hf1 := blk_frozen HBX.out 1))
    go_step3
    go_wp2
    try rw [Exit.noGoto_ret]
    go_ret
    exact ⟨ret_i64 HG.out.symm, below_step HB.out HBB.out⟩
  have d2 : decide ((16 : Int) < (l.length : Int)) = false := decide_eq_false (by omega)
  have d2b : decide (16 < l.length) = false := decide_eq_false h1
  have HG := Aside0.mk (HE.out.trans ((if_neg h0).trans (if_neg h1)))
  have H16 := Aside0.mk (show l.length ≤ 16 by omega)
  clear h0 h1 HE
  go_wp2_with (first | ((with_reducible refine gate_dst (N := 1) rfl ?_); (try (refine gate_guard (by rfl) ?_; dsimp only)); refine box_event ?hg (N := 1) ?hd (cs := #[.int .i64 a, .slice A l.length c]) (t := 24) ?hr ?_; (case hd => rfl); (case hg => rfl); (case hr => first | (go_simp; done) | (go_simp; rfl)); intro g hg_ w2 hbox_ hb_; have HBX := Aside0.mk hbox_; have HBN := Aside0.mk hg_; have HBB := Aside0.mk hb_; clear hbox_ hg_ hb_; have hc0 := blk_cell HBX.out 0; have hf0 := blk_frozen HBX.out 0; have hc1 := blk_cell HBX.out 1; have hf1 := blk_frozen HBX.out 1))
  go_step3
  go_wp2
  go_step3
  go_wp2
  have HBB2 := Aside0.mk (below_step HB.out HBB.out)
  have HGE : Aside0 (w.heap.size ≤ g) := ⟨by rw [HBN.out]; exact Nat.le_refl _⟩
  clear HBB HB HBN
  have HB := HBB2
  clear HBB2
  go_loopg [4, 19] (l.length + 1) (fun k v4 v19 w' => ∃ i : Nat, v4 = .int .i64 0 ∧ v19 = .int .i64 (i : Int) ∧ Aside0 (i + k = l.length + 1) ∧ Aside0 (firstE (l.drop i) = firstE l) ∧ Aside0 (w'.heap[g]? = some (.cells #[.int .i64 a, .slice A l.length c] 24 (0, 0))) ∧ Aside0 (Below w.heap.size w w'))
  case atStart => exact ⟨0, rfl, rfl, ⟨by omega⟩, ⟨by rw [List.drop_zero]⟩, HBX, HB⟩
  case round =>
    clear HBX HB hc0 hc1 hf0 hf1
    obtain ⟨i, rfl, rfl, HI, HFE, HBX, HB⟩ := hrel
    have hc0 := blk_cell HBX.out 0
    have hc1 := blk_cell HBX.out 1
    by_cases hi : i < l.length
    · have d3 : decide ((i : Int) < (l.length : Int)) = true := decide_eq_true (by omega)
      have d3b : decide (i < l.length) = true := decide_eq_true hi
      obtain ⟨ad, A2, c2, A3, c3, e_, hx0, hx1, hx2, hx3, hl2, hi2, hl3, hi3⟩ := at_T40 HR.out (i : Int) (by omega) (by omega)
      cases e_
      have hxm := rdE_mem' hi
      obtain ⟨x, hx⟩ : ∃ x, x = rd_T40 l (i : Int) := ⟨_, rfl⟩
      rw [← hx] at hx0 hx1 hx2 hx3 hl2 hi2 hl3 hi3 hxm
      have HX := Aside0.mk hx
      simp only [Int.toNat_natCast] at hx0 hx1 hx2 hx3
      replace hx0 := (HB.out.cell (World.block_lt_of_cell? w _ hx0)).trans hx0
      replace hx1 := (HB.out.cell (World.block_lt_of_cell? w _ hx1)).trans hx1
      replace hx2 := (HB.out.cell (World.block_lt_of_cell? w _ hx2)).trans hx2
      replace hx3 := (HB.out.cell (World.block_lt_of_cell? w _ hx3)).trans hx3
      have HR2 := Aside0.mk hi2
      have HC2 := Aside0.mk hl2
      have HR3 := Aside0.mk hi3
      have HC3 := Aside0.mk hl3
      have hfx := HF.out x hxm
      have HFX : Aside0 (event_May.f x.f0 x.f1 x.f2 x.f3 = some (evE x)) := ⟨if_pos hfx⟩
      have HIL := Aside0.mk hi
      clear hx hi2 hl2 hi3 hl3 hxm hfx
      go_upto_region 10 with (first | ((with_reducible refine gate_dst (N := 6) rfl ?_); (try (refine gate_guard (by rfl) ?_; dsimp only)); refine box_event ?hg (N := 6) ?hd (cs := #[.string (⟨#[]⟩ : ByteArray), .string (⟨#[]⟩ : ByteArray), .slice none 0 0, .slice none 0 0]) (t := 40) ?hr ?_; (case hd => rfl); (case hg => rfl); (case hr => first | (go_simp; done) | (go_simp; rfl)); intro B hg_ w3 hbox_ hb_; have HBE := Aside0.mk hbox_; have HBM := Aside0.mk hg_; have HBD := Aside0.mk hb_; clear hbox_ hg_ hb_; have hq0 := blk_cell HBE.out 0; have hz0 := blk_frozen HBE.out 0; have hq1 := blk_cell HBE.out 1; have hz1 := blk_frozen HBE.out 1; have hq2 := blk_cell HBE.out 2; have hz2 := blk_frozen HBE.out 2; have hq3 := blk_cell HBE.out 3; have hz3 := blk_frozen HBE.out 3; have n1_ := Aside0.mk (blk_below HBX.out HBD.out); have n2_ := Aside0.mk (below_step HB.out HBD.out); have HLT := Aside0.mk (blk_lt HBX.out); have HNE := Aside0.mk (show g ≠ B by rw [HBM.out]; exact Nat.ne_of_lt (blk_lt HBX.out)); clear HBX HB; have HBX := n1_; have HB := n2_; clear n1_ n2_))
      have HGB : Aside0 (w.heap.size ≤ B) := ⟨Nat.le_trans HGE.out (by have h1 := blk_lt HBX.out; have h2 := HBM.out; have h3 := HNE.out; have h4 := HBD.out.size; rw [h2]; exact Nat.le_of_lt (by have := HLT.out; omega))⟩
      have n1_ := Aside0.mk (blk_far (blk_far (blk_far (blk_far HBX.out HNE.out (p := ⟨B, 0, none⟩) (.string x.f0)) HNE.out (p := ⟨B, 1, none⟩) (.string x.f1)) HNE.out (p := ⟨B, 2, none⟩) (.slice A2 x.f2.length c2)) HNE.out (p := ⟨B, 3, none⟩) (.slice A3 x.f3.length c3))
      have n2_ := Aside0.mk ((((HB.out.setCell (p := ⟨B, 0, none⟩) HGB.out (.string x.f0)).setCell (p := ⟨B, 1, none⟩) HGB.out (.string x.f1)).setCell (p := ⟨B, 2, none⟩) HGB.out (.slice A2 x.f2.length c2)).setCell (p := ⟨B, 3, none⟩) HGB.out (.slice A3 x.f3.length c3))
      have n6_ := Aside0.mk (blk_put (cs' := #[.string x.f0, .string x.f1, .slice A2 x.f2.length c2, .slice A3 x.f3.length c3]) (blk_put (cs' := #[.string x.f0, .string x.f1, .slice A2 x.f2.length c2, .slice none 0 0]) (blk_put (cs' := #[.string x.f0, .string x.f1, .slice none 0 0, .slice none 0 0]) (blk_put (cs' := #[.string x.f0, .string ⟨#[]⟩, .slice none 0 0, .slice none 0 0]) HBE.out 0 (.string x.f0) rfl) 1 (.string x.f1) rfl) 2 (.slice A2 x.f2.length c2) rfl) 3 (.slice A3 x.f3.length c3) rfl)
      clear HBX HB HBE HBD hx0 hx1 hx2 hx3 hq0 hq1 hq2 hq3 hz0 hz1 hz2 hz3 hc0 hc1
      generalize (((w3.setCell ⟨B, 0, none⟩ (.string x.f0)).setCell ⟨B, 1, none⟩ (.string x.f1)).setCell ⟨B, 2, none⟩ (.slice A2 x.f2.length c2)).setCell ⟨B, 3, none⟩ (.slice A3 x.f3.length c3) = w4 at n1_ n2_ n6_ ⊢
      have hq0 := blk_cell n6_.out 0
      have hq1 := blk_cell n6_.out 1
      have hq2 := blk_cell n6_.out 2
      have hq3 := blk_cell n6_.out 3
      go_wp2_with fail
      refine (event_May.calls x.f0 x.f1 A2 c2 x.f2 A3 c3 x.f3 (evE x) w4 (Kd.C_below HR2.out n2_.out) HC2.out (Kd.C_below HR3.out n2_.out) HC3.out HFX.out).mono ?_
      rintro e w5 ⟨rfl, hb⟩
      have HBX := Aside0.mk (blk_below n1_.out hb)
      have HB := Aside0.mk (below_step n2_.out hb)
      clear n1_ n2_ n6_ hq0 hq1 hq2 hq3 hb
      have hc0 := blk_cell HBX.out 0
      have hc1 := blk_cell HBX.out 1
      obtain ⟨v, hv⟩ : ∃ v, v = evE x := ⟨_, rfl⟩
      rw [← hv]
      have HV := Aside0.mk hv
      clear hv
      by_cases hv0 : v = 0
      · have b1 : (v == 0) = true := beq_iff_eq.mpr hv0
        have HV0 := Aside0.mk hv0
        have HFN := Aside0.mk (show firstE (l.drop (i + 1)) = firstE l by rw [← firstE_yes HIL.out (by rw [← HX.out, ← HV.out]; exact hv0)]; exact HFE.out)
        clear hv0
        go_wp2_with fail
        go_roundg (l.length - i)
        case measure => have := HI.out; omega
        case rel => exact ⟨i + 1, by rw [HV0.out], by go_num, ⟨by have := HI.out; omega⟩, HFN, HBX, HB⟩
      · have b1 : (v == 0) = false := beq_eq_false_iff_ne.mpr hv0
        have HV0 := Aside0.mk hv0
        have HR := Aside0.mk (show E = v from HG.out.trans (by
          have e : firstE l = v := by rw [← HFE.out, firstE_no HIL.out (by rw [← HX.out, ← HV.out]; exact hv0), ← HX.out, HV.out]
          rw [e]; exact if_pos hv0))
        clear hv0
        go_wp2_with fail
        rw [Exit.noGoto_ret]
        go_ret
        exact ⟨ret_i64 HR.out.symm, HB.out⟩
    · have d3 : decide ((i : Int) < (l.length : Int)) = false := decide_eq_false (by omega)
      have d3b : decide (i < l.length) = false := decide_eq_false hi
      have HFZ : Aside0 (firstE l = 0) := ⟨by rw [← HFE.out, List.drop_eq_nil_of_le (by omega)]; rfl⟩
      have HG2 := Aside0.mk (HG.out.trans (if_neg (by rw [HFZ.out]; simp)))
      have h16 := H16.out
      by_cases ha : a < 0
      · have b1 : decide (a < 0) = true := decide_eq_true ha
        have HR := Aside0.mk (HG2.out.trans (if_pos (.inl ha)))
        go_wp2_with fail
        try rw [Exit.noGoto_ret]
        go_ret
        exact ⟨ret_i64 HR.out.symm, HB.out⟩
      · have b1 : decide (a < 0) = false := decide_eq_false ha
        by_cases ha2 : 1048576 - (l.length : Int) < a
        · have b2 : decide (1048576 - (l.length : Int) < a) = true := decide_eq_true ha2
          have HR := Aside0.mk (HG2.out.trans (if_pos (.inr ha2)))
          go_wp2_with fail
          try rw [Exit.noGoto_ret]
          go_ret
          exact ⟨ret_i64 HR.out.symm, HB.out⟩
        · have b2 : decide (1048576 - (l.length : Int) < a) = false := decide_eq_false ha2
          have HR := Aside0.mk (HG2.out.trans (if_neg (by omega)))
          go_wp2_with fail
          try rw [Exit.noGoto_ret]
          go_ret
          exact ⟨ret_i64 HR.out.symm, HB.out⟩
def batch_May.f (a0_0 : Int) (l0_1 : List S40) : Option Int := if l0_1.all fitX = true then some (mayB a0_0 l0_1) else none
theorem batch_May.calls (a0_0 : Int) (A0_1 : Option Addr) (c0_1 : Nat) (l0_1 : List (S40)) (r : Int) (w : World) (hr0_1 : Kd.C k40 w A0_1 l0_1.length l0_1) (hc0_1 : l0_1.length ≤ c0_1) (h : batch_May.f a0_0 l0_1 = some r) :
    Calls Try.prog 13 #[.agg #[.int .i64 a0_0, .slice A0_1 l0_1.length c0_1]] w fun e w' => e = .returned (.int .i64 r) ∧ Below w.heap.size w w' := by
  unfold batch_May.f at h
  by_cases hc : l0_1.all fitX = true
  · rw [if_pos hc] at h
    obtain rfl := Option.some.inj h
    exact batchMay_calls a0_0 A0_1 c0_1 l0_1 w hr0_1 hc0_1 (List.all_eq_true.1 hc)
  · rw [if_neg hc] at h; cases h
end Go.Proofs.Ytafeakcajhhkoaa.Prt
namespace Go.Proofs.Ytafeakcajhhkoaa.Prt
open Go.RowKit Go.Proofs.YtafeakcajhhkoaaW.PrintWords Go.Proofs.YtafeakcajhhkoaaW.PrintLast Go.Proofs.YtafeakcajhhkoaaW.PrintMore
attribute [local go_sem] max2_int min2_int max_two min_two max_three min_three max_four min_four   -- for this text's walks alone
set_option linter.unusedVariables false
set_option linter.unusedSimpArgs false

def batch_Put.l0 : Nat → List Int → List (S40) → Int → Int → Option (List Int × Int)
  | 0, _, _, _, _ => none
  | k + 1, x5, x23, x24, x25 => if x25 < x24 then (if 0 ≤ x25 then (if x25 < (x23.length : Int) then ((evcode_PutG.f x5 ((rd_T40 x23 x25).f0) ((rd_T40 x23 x25).f1) ((rd_T40 x23 x25).f2) ((rd_T40 x23 x25).f3)).bind fun bt145 => (if bt145.2 = 0 then (batch_Put.l0 k bt145.1 x23 x24 (wrap64 (x25 + 1))) else (some (([] : List Int), bt145.2)))) else (none)) else (none)) else (some (x5, 0))
def batch_Put.f (k : Nat) (a0_0 : Int) (l0_1 : List (S40)) : Option (List Int × Int) := (batch_May.f a0_0 l0_1).bind fun t136 => (if t136 = 0 then ((num_Put.f ([] : List Int) a0_0).bind fun t137 => ((num_Put.f t137 (l0_1.length : Int)).bind fun t140 => (batch_Put.l0 k t140 l0_1 (l0_1.length : Int) 0))) else (some (([] : List Int), t136)))
def batch_Put.T4 : Bool × List (List Nat × List Nat) := (true, [([], []), ([0], [0]), ([1], [1]), ([], []), ([3], [3]), ([4], [4]), ([2, 5, 2], [2, 5]), ([6, 6, 0, 1, 2, 3, 4, 5, 6], [6])])
def batch_Put.B4 : List Nat := [0, 1, 3, 0, 8, 24, 63, 127]
theorem batch_Put.tab4 : rtab .any (opsOf Try.f11 4) = batch_Put.T4 := by kernel_rfl
theorem batch_Put.bits4 : waitsOk batch_Put.T4.2 batch_Put.B4 = true := by kernel_rfl
set_option maxHeartbeats 8000000 in
set_option maxRecDepth 100000 in
theorem batch_Put.calls (k : Nat) (a0_0 : Int) (A0_1 : Option Addr) (c0_1 : Nat) (l0_1 : List (S40)) (r1 : List Int) (r2 : Int) (w : World) (hr0_1 : Kd.C k40 w A0_1 l0_1.length l0_1) (hc0_1 : l0_1.length ≤ c0_1) (h : batch_Put.f k a0_0 l0_1 = some (r1, r2)) :
    Calls Try.prog 11 #[.agg #[.int .i64 a0_0, .slice A0_1 l0_1.length c0_1]] w fun e w' => ∃ v0_ : Value, e = .returned (.tuple #[v0_, .int .i64 r2]) ∧ Kd.R (Kd.int .u8) 5 w' w.heap.size (fun _ => True) v0_ r1 ∧ Below w.heap.size w w' := by
  have hu24 := Try.underlying24
  have hu40 := Try.underlying40
  have HR0_1 := Aside0.mk hr0_1
  have HC0_1 := Aside0.mk hc0_1
  clear hr0_1 hc0_1
  have HB := Aside0.mk (Below.refl w.heap.size w)
  have H : ((batch_May.f a0_0 l0_1).bind fun t136 => (if t136 = 0 then ((num_Put.f ([] : List Int) a0_0).bind fun t137 => ((num_Put.f t137 (l0_1.length : Int)).bind fun t140 => (batch_Put.l0 k t140 l0_1 (l0_1.length : Int) 0))) else (some (([] : List Int), t136)))) = some (r1, r2) := h
  clear h
  replace H := Option.bind_eq_some_iff.mp H
  obtain ⟨t136, A20, H⟩ := H
  replace H : (if t136 = 0 then ((num_Put.f ([] : List Int) a0_0).bind fun t137 => ((num_Put.f t137 (l0_1.length : Int)).bind fun t140 => (batch_Put.l0 k t140 l0_1 (l0_1.length : Int) 0))) else (some (([] : List Int), t136))) = some (r1, r2) := H
  have A2 := Aside0.mk A20
  clear A20
  by_cases c3 : t136 = 0
  · rw [if_pos c3] at H
    have c3b0 : (t136 == 0) = true := beq_iff_eq.mpr c3
    have c3b1 : (t136 != 0) = false := bne_eq_false_iff_eq.mpr c3
    clear c3
    replace H := Option.bind_eq_some_iff.mp H
    obtain ⟨t137, A40, H⟩ := H
    replace H : ((num_Put.f t137 (l0_1.length : Int)).bind fun t140 => (batch_Put.l0 k t140 l0_1 (l0_1.length : Int) 0)) = some (r1, r2) := H
    have A4 := Aside0.mk A40
    clear A40
    replace H := Option.bind_eq_some_iff.mp H
    obtain ⟨t140, A50, H⟩ := H
    replace H : (batch_Put.l0 k t140 l0_1 (l0_1.length : Int) 0) = some (r1, r2) := H
    have A5 := Aside0.mk A50
    clear A50
    have H' := Aside0.mk H
    clear H
    go_enter Try.func11, Try.ntmps11
    try go_wp2_with (first | ((with_reducible refine gate_dst (N := 1) rfl ?_); refine box_event ?hg (N := 1) ?hd (cs := #[.int .i64 a0_0, .slice A0_1 l0_1.length c0_1]) (t := 24) ?hr ?_; (case hd => rfl); (case hg => rfl); (case hr => first | (go_simp; done) | (go_simp; rfl)); intro gb135 hg w6 hbox hb; have n0_ := Aside0.mk (below_step (by repeat (first | (with_reducible first | exact HB.out | apply below_alloc | apply pw_below_drewN | apply below_drew1) | exact HB.out)) hb); have n1_ := Aside0.mk (hbox); have n2_ := Aside0.mk ((by rw [hg]; exact (below_size (by repeat (first | (with_reducible first | exact HB.out | apply below_alloc | apply pw_below_drewN | apply below_drew1) | exact HB.out))) : w.heap.size ≤ gb135)); have n3_ := Aside0.mk ((by rw [hg]; exact (below_size (by repeat (first | (with_reducible first | exact HB.out | apply below_alloc | apply pw_below_drewN | apply below_drew1) | exact HB.out))) : w.heap.size ≤ gb135)); clear HB; have HB := n0_; have BK135 := n1_; have GW135 := n2_; have GE135 := n3_; clear n0_ n1_ n2_ n3_; clear hb hbox hg; have hcz7_0 : w6.cell? ⟨gb135, 0, none⟩ = some (.int .i64 a0_0) := (blk_cell BK135.out 0).trans rfl; have hcz7_1 : w6.cell? ⟨gb135, 1, none⟩ = some (.slice A0_1 l0_1.length c0_1) := (blk_cell BK135.out 1).trans rfl; have hfz7_0 := blk_frozen BK135.out 0; have hfz7_1 := blk_frozen BK135.out 1) | ((with_reducible refine gate_callee (f := 13) rfl ?_); refine goesL_ (some 11) rfl rfl Try.func13 (by kernel_rfl) rfl #[.agg #[.int .i64 a0_0, .slice A0_1 l0_1.length c0_1]] rfl (by (try simp only [List.map_toArray, List.map_cons, List.map_nil]); first | done | rfl | (simp only [List.length_drop, List.length_take]; rfl)) ?_; (with_reducible refine (batch_May.calls a0_0 _ _ l0_1 t136 _ ?side1 ?side2 A2.out).mono ?_); (case side1 => repeat (first | exact (Kd.C_below HR0_1.out HB.out) | (with_reducible refine Kd.C_alloc ?_ _) | (with_reducible refine Kd.C_drewN ?_ _) | (with_reducible refine Kd.C_drew ?_))); (case side2 => exact HC0_1.out); rintro e w8 ⟨rfl, hb⟩; refine ⟨_, rfl, ?_⟩; have n0_ := Aside0.mk (blk_below (g := gb135) (o := .cells #[.int .i64 a0_0, .slice A0_1 l0_1.length c0_1] 24 (0, 0)) (by (with_reducible repeat (first | refine blk_drewN ?_ _ | refine blk_drew ?_ | refine blk_alloc ?_ _)); exact BK135.out) hb); have n1_ := Aside0.mk (below_step (by repeat (first | (with_reducible first | exact HB.out | apply below_alloc | apply pw_below_drewN | apply below_drew1 | refine below_set ?_ GE135.out) | exact HB.out)) hb); clear BK135; clear HB; have BK135 := n0_; have HB := n1_; clear n0_ n1_; (try clear hb); (try clear hb2); (try clear hk); (try clear hi)))
    have n0_ := Aside0.mk (blk_drew BK135.out)
    have n1_ := Aside0.mk (below_drew1 HB.out)
    clear BK135
    clear HB
    have BK135 := n0_
    have HB := n1_
    clear n0_ n1_
    refine start_ (n := 8) (S := fun w' => w'.cell? ⟨gb135, 0, none⟩ = some (.int .i64 a0_0) ∧ w'.cell? ⟨gb135, 1, none⟩ = some (.slice A0_1 l0_1.length c0_1)) (ds := []) #[false, false, false, false, false, false, false, false] (by kernel_rfl) rfl rfl ⟨(blk_cell BK135.out 0).trans rfl, (blk_cell BK135.out 1).trans rfl⟩ (fun hHeld => ?_); refine with_tabW batch_Put.tab4 batch_Put.bits4 (fun HT_ HW_ => ?_)
    generalize w8.drew = w9 at BK135 HB hHeld ⊢
    refine pure_ (i := 0) (N := some 15) (v := ?_) (a' := ?_) #[true, false, false, false, false, false, false, false] rfl rfl (any_of HT_.out (by kernel_rfl)) (fun _ _ _ h => h) (Or.inl ⟨by rfl, ?_⟩) ?_ ?_
    rotate_left
    · intro w'
      go_simp
      with_reducible rfl
    rotate_left
    · simp only [Act.put, List.setIfInBounds_toArray, List.set_cons_zero, List.set_cons_succ, i64_w, i32_w]
      rfl
    refine pure_ (i := 3) (N := some 18) (v := ?_) (a' := ?_) #[true, false, false, true, false, false, false, false] rfl rfl (any_of HT_.out (by kernel_rfl)) (fun _ _ _ h => h) (Or.inl ⟨by rfl, ?_⟩) ?_ ?_
    rotate_left
    · intro w'
      go_simp
      with_reducible rfl
    rotate_left
    · simp only [Act.put, List.setIfInBounds_toArray, List.set_cons_zero, List.set_cons_succ, i64_w, i32_w]
      rfl
    refine take_ (i := 1) (N := some 16) (v := ?_) (a' := ?_) #[true, true, false, true, false, false, false, false] rfl rfl (take_ofW HT_.out HW_.out (by kernel_rfl)) (fun _ _ _ h => h) (Or.inl ⟨by rfl, ?_⟩) hHeld ?_ ?_
    rotate_left
    · rintro w' ⟨s0, s1⟩
      go_simp
      with_reducible rfl
    rotate_left
    · simp only [Act.put, List.setIfInBounds_toArray, List.set_cons_zero, List.set_cons_succ, i64_w, i32_w]
      rfl
    refine take_ (i := 4) (N := some 19) (v := ?_) (a' := ?_) #[true, true, false, true, true, false, false, false] rfl rfl (take_ofW HT_.out HW_.out (by kernel_rfl)) (fun _ _ _ h => h) (Or.inl ⟨by rfl, ?_⟩) hHeld ?_ ?_
    rotate_left
    · rintro w' ⟨s0, s1⟩
      go_simp
      with_reducible rfl
    rotate_left
    · simp only [Act.put, List.setIfInBounds_toArray, List.set_cons_zero, List.set_cons_succ, i64_w, i32_w]
      rfl
    refine pure_ (i := 5) (N := some 20) (v := ?_) (a' := ?_) #[true, true, false, true, true, true, false, false] rfl rfl (any_of HT_.out (by kernel_rfl)) (fun _ _ _ h => h) (Or.inl ⟨by rfl, ?_⟩) ?_ ?_
    rotate_left
    · intro w'
      go_simp
      with_reducible rfl
    rotate_left
    · simp only [Act.put, List.setIfInBounds_toArray, List.set_cons_zero, List.set_cons_succ, i64_w, i32_w]
      rfl
    refine one_ (i := 2) (N := some 17) #[true, true, true, true, true, true, false, false] rfl rfl (one_of HT_.out (by kernel_rfl)) (by decide) (fun K hK => ?_)
    refine goes_ Try.func20 (by kernel_rfl) rfl #[.slice none 0 0, .int .i64 a0_0] (by rfl) rfl rfl (by (try simp only [List.map_toArray, List.map_cons, List.map_nil]); first | done | rfl | (simp only [List.length_drop, List.length_take]; rfl)) ?_
    refine (num_Put.calls _ _ ([] : List Int) a0_0 t137 _ ?side1 ?side2 A4.out).mono ?_
    (case side1 => exact Kd.C_nil _ _)
    (case side2 => exact Nat.le_refl _)
    rintro e w10 ⟨v138, rfl, ho0, hb⟩
    refine ⟨_, rfl, ?_⟩
    have n0_ := Aside0.mk (Kd.R_lower ho0 (below_size (by repeat (first | (with_reducible first | exact HB.out | apply below_alloc | apply pw_below_drewN | apply below_drew1 | refine below_set ?_ GE135.out) | exact HB.out))))
    have n1_ := Aside0.mk (blk_below (g := gb135) (o := .cells #[.int .i64 a0_0, .slice A0_1 l0_1.length c0_1] 24 (0, 0)) (by (with_reducible repeat (first | refine blk_drewN ?_ _ | refine blk_drew ?_ | refine blk_alloc ?_ _)); exact BK135.out) hb)
    have n2_ := Aside0.mk (below_step (by repeat (first | (with_reducible first | exact HB.out | apply below_alloc | apply pw_below_drewN | apply below_drew1 | refine below_set ?_ GE135.out) | exact HB.out)) hb)
    clear BK135
    clear HB
    have HO139 := n0_
    have BK135 := n1_
    have HB := n2_
    clear n0_ n1_ n2_
    (try clear hb)
    (try clear hb2)
    (try clear hk)
    (try clear hi)
    (try clear ho0)
    obtain ⟨Ao11, co11, eo11⟩ := Kd.R_slice HO139.out
    (first | subst eo11 | (injection eo11 with f1_ f2_ f3_; have f4_ := f1_.symm; have f5_ := f3_.symm; clear f1_ f2_ f3_; subst f4_; subst f5_))
    refine hK.out _ _ ⟨(blk_cell BK135.out 0).trans rfl, (blk_cell BK135.out 1).trans rfl⟩ (fun hHeld => ?_)
    clear hK K
    refine norm_ (a' := ?_) ?_ ?_
    rotate_left
    · show Act.put _ (some 17) _ = _
      simp only [Act.put, List.setIfInBounds_toArray, List.set_cons_zero, List.set_cons_succ, i64_w, i32_w]
      rfl
    refine one_ (i := 6) (N := some 21) #[true, true, true, true, true, true, true, false] rfl rfl (one_of HT_.out (by kernel_rfl)) (by decide) (fun K hK => ?_)
    refine goes_ Try.func20 (by kernel_rfl) rfl #[.slice Ao11 t137.length co11, .int .i64 (l0_1.length : Int)] (by rfl) rfl rfl (by (try simp only [List.map_toArray, List.map_cons, List.map_nil]); first | done | rfl | (simp only [List.length_drop, List.length_take]; rfl)) ?_
    with_reducible refine (num_Put.calls _ _ t137 (l0_1.length : Int) t140 _ ?side1 ?side2 A5.out).mono ?_
    (case side1 => repeat (first | exact (Kd.R_reads' HO139.out).2.2 | (with_reducible refine Kd.C_alloc ?_ _) | (with_reducible refine Kd.C_drewN ?_ _) | (with_reducible refine Kd.C_drew ?_)))
    (case side2 => exact (Kd.R_reads' HO139.out).2.1)
    rintro e w12 ⟨v141, rfl, ho0, hb⟩
    refine ⟨_, rfl, ?_⟩
    have n0_ := Aside0.mk (Kd.R_elder' (by (with_reducible repeat (first | apply Kd.R_alloc | apply Kd.R_drewN | apply Kd.R_drew)); exact HO139.out) (Kd.R_base ho0) hb)
    have n1_ := Aside0.mk (Kd.R_lower (Kd.R_new' ho0 (Kd.R_lt (by (with_reducible repeat (first | apply Kd.R_alloc | apply Kd.R_drewN | apply Kd.R_drew)); exact HO139.out))) (below_size (by repeat (first | (with_reducible first | exact HB.out | apply below_alloc | apply pw_below_drewN | apply below_drew1 | refine below_set ?_ GE135.out) | exact HB.out))))
    have n2_ := Aside0.mk (blk_below (g := gb135) (o := .cells #[.int .i64 a0_0, .slice A0_1 l0_1.length c0_1] 24 (0, 0)) (by (with_reducible repeat (first | refine blk_drewN ?_ _ | refine blk_drew ?_ | refine blk_alloc ?_ _)); exact BK135.out) hb)
    have n3_ := Aside0.mk (below_step (by repeat (first | (with_reducible first | exact HB.out | apply below_alloc | apply pw_below_drewN | apply below_drew1 | refine below_set ?_ GE135.out) | exact HB.out)) hb)
    clear HO139
    clear BK135
    clear HB
    have HO139 := n0_
    have HO142 := n1_
    have BK135 := n2_
    have HB := n3_
    clear n0_ n1_ n2_ n3_
    (try clear hb)
    (try clear hb2)
    (try clear hk)
    (try clear hi)
    (try clear ho0)
    refine hK.out _ _ ⟨(blk_cell BK135.out 0).trans rfl, (blk_cell BK135.out 1).trans rfl⟩ (fun hHeld => ?_)
    clear hK K
    refine norm_ (a' := ?_) ?_ ?_
    rotate_left
    · show Act.put _ (some 21) _ = _
      simp only [Act.put, List.setIfInBounds_toArray, List.set_cons_zero, List.set_cons_succ, i64_w, i32_w]
      rfl
    refine pure_ (i := 7) (N := some 5) (v := ?_) (a' := ?_) #[true, true, true, true, true, true, true, true] rfl rfl (any_of HT_.out (by kernel_rfl)) (fun _ _ _ h => h) (Or.inl ⟨by rfl, ?_⟩) ?_ ?_
    rotate_left
    · intro w'
      go_simp
      with_reducible rfl
    rotate_left
    · simp only [Act.put, List.setIfInBounds_toArray, List.set_cons_zero, List.set_cons_succ, i64_w, i32_w]
      rfl
    refine done_ (done_of HT_.out (by kernel_rfl)) ?_
    have hcz13_0 : w12.cell? ⟨gb135, 0, none⟩ = some (.int .i64 a0_0) := (blk_cell BK135.out 0).trans rfl
    have hcz13_1 : w12.cell? ⟨gb135, 1, none⟩ = some (.slice A0_1 l0_1.length c0_1) := (blk_cell BK135.out 1).trans rfl
    have hfz13_0 := blk_frozen BK135.out 0
    have hfz13_1 := blk_frozen BK135.out 1
    try go_wp2
    go_loopg [5, 25] k (fun kq v5 v25 w' => ∃ (x5_1 : List Int) (x25_1 : Int), v25 = .int .i64 x25_1 ∧ Aside0 (batch_Put.l0 kq x5_1 l0_1 (l0_1.length : Int) x25_1 = some (r1, r2)) ∧ Aside0 (kq ≤ k) ∧ Aside0 (Kd.R (Kd.int .u8) 5 w' w.heap.size (fun _ => True) v5 x5_1) ∧ Aside0 (w'.heap[gb135]? = some (.cells #[.int .i64 a0_0, (.slice A0_1 l0_1.length c0_1)] 24 (0, 0))) ∧ Aside0 (Below w.heap.size w w'))
    case atStart => exact ⟨(t140), (0), (by first | rfl | (simp; done) | (simp [*]; done)), H', ⟨Nat.le_refl _⟩, ⟨by (with_reducible repeat (first | apply Kd.R_alloc | apply Kd.R_drewN | apply Kd.R_drew)); exact Kd.R_mono HO142.out (fun _ hk => trivial)⟩, ⟨by (with_reducible repeat (first | refine blk_drewN ?_ _ | refine blk_drew ?_ | refine blk_alloc ?_ _)); exact BK135.out⟩, ⟨by repeat (first | (with_reducible first | exact HB.out | apply below_alloc | apply pw_below_drewN | apply below_drew1 | refine below_set ?_ GE135.out) | exact HB.out)⟩⟩
    case round =>
      clear H'
      try clear c1
      try clear c2
      try clear p2
      try clear c3
      try clear c3b0
      try clear c3b1
      try clear c11
      try clear c13
      try clear hcz13_0
      try clear hcz13_1
      try clear hcz7_0
      try clear hcz7_1
      try clear hfz13_0
      try clear hfz13_1
      try clear hfz7_0
      try clear hfz7_1
      obtain ⟨x5_1, x25_1, rfl, HA, HK1, HO_5, BK135, HB⟩ := hrel
      cases gk with
      | zero => exact absurd HA.out (by simp [batch_Put.l0])
      | succ k1 =>
        have H := HA.out
        clear HA
        simp only [batch_Put.l0] at H
        by_cases c14 : x25_1 < (l0_1.length : Int)
        · rw [if_pos c14] at H
          have c14b0 : decide (x25_1 < (l0_1.length : Int)) = true := decide_eq_true c14
          clear c14
          by_cases c15 : 0 ≤ x25_1
          · rw [if_pos c15] at H
            have c15b0 : decide (0 ≤ x25_1) = true := decide_eq_true c15
            clear c15
            by_cases c16 : x25_1 < (l0_1.length : Int)
            · rw [if_pos c16] at H
              have c16b0 : decide (x25_1 < (l0_1.length : Int)) = true := decide_eq_true c16
              clear c16
              replace H := Option.bind_eq_some_iff.mp H
              obtain ⟨⟨t145, t148⟩, A170, H⟩ := H
              replace H : (if t148 = 0 then (batch_Put.l0 k1 t145 l0_1 (l0_1.length : Int) (wrap64 (x25_1 + 1))) else (some (([] : List Int), t148))) = some (r1, r2) := H
              have A17 := Aside0.mk A170
              clear A170
              by_cases c18 : t148 = 0
              · rw [if_pos c18] at H
                have c18b0 : (t148 == 0) = true := beq_iff_eq.mpr c18
                have c18b1 : (t148 != 0) = false := bne_eq_false_iff_eq.mpr c18
                clear c18
                have H' := Aside0.mk H
                clear H
                have p143 : 0 ≤ (x25_1 : Int) := of_decide_eq_true (by first | (with_reducible assumption) | assumption)
                have q143 : x25_1 < (l0_1.length : Int) := of_decide_eq_true (by first | (with_reducible assumption) | assumption)
                obtain ⟨ad143, A143_2, c143_2, A143_3, c143_3, e143, hx143_0, hx143_1, hx143_2, hx143_3, hl143_2, hi143_2, hl143_3, hi143_3⟩ := at_T40 HR0_1.out x25_1 p143 q143
                cases e143
                replace hx143_0 := (HB.out.cell (World.block_lt_of_cell? w _ hx143_0)).trans hx143_0
                replace hx143_1 := (HB.out.cell (World.block_lt_of_cell? w _ hx143_1)).trans hx143_1
                replace hx143_2 := (HB.out.cell (World.block_lt_of_cell? w _ hx143_2)).trans hx143_2
                replace hx143_3 := (HB.out.cell (World.block_lt_of_cell? w _ hx143_3)).trans hx143_3
                have HR143_2 := Aside0.mk hi143_2
                have HC143_2 := Aside0.mk hl143_2
                clear hi143_2 hl143_2
                have HR143_3 := Aside0.mk hi143_3
                have HC143_3 := Aside0.mk hl143_3
                clear hi143_3 hl143_3
                replace p143 := eq_true p143
                replace q143 := eq_true q143
                go_wp2_with (first | ((with_reducible refine gate_dst (N := 7) rfl ?_); refine box_event ?hg (N := 7) ?hd (cs := #[.string (⟨#[]⟩ : ByteArray), .string (⟨#[]⟩ : ByteArray), .slice none 0 0, .slice none 0 0]) (t := 40) ?hr ?_; (case hd => rfl); (case hg => rfl); (case hr => first | (go_simp; done) | (go_simp; rfl)); intro gb144 hg w19 hbox hb; have n0_ := Aside0.mk (Kd.R_below (by (with_reducible repeat (first | apply Kd.R_alloc | apply Kd.R_drewN | apply Kd.R_drew)); exact HO_5.out) hb); have n1_ := Aside0.mk (blk_below (g := gb135) (o := .cells #[.int .i64 a0_0, .slice (some ad143) l0_1.length c0_1] 24 (0, 0)) (by (with_reducible repeat (first | refine blk_drewN ?_ _ | refine blk_drew ?_ | refine blk_alloc ?_ _)); exact BK135.out) hb); have n2_ := Aside0.mk (below_step (by repeat (first | (with_reducible first | exact HB.out | apply below_alloc | apply pw_below_drewN | apply below_drew1 | refine below_set ?_ GE135.out) | exact HB.out)) hb); have n3_ := Aside0.mk (hbox); have n4_ := Aside0.mk ((by rw [hg]; exact (below_size (by repeat (first | (with_reducible first | exact HB.out | apply below_alloc | apply pw_below_drewN | apply below_drew1 | refine below_set ?_ GE135.out) | exact HB.out))) : w.heap.size ≤ gb144)); have n5_ := Aside0.mk ((by rw [hg]; exact (below_size (by repeat (first | (with_reducible first | exact HB.out | apply below_alloc | apply pw_below_drewN | apply below_drew1 | refine below_set ?_ GE135.out) | exact HB.out))) : w.heap.size ≤ gb144)); have n6_ := Aside0.mk ((by rw [hg]; exact Nat.ne_of_lt (blk_lt (g := gb135) (o := .cells #[.int .i64 a0_0, .slice (some ad143) l0_1.length c0_1] 24 (0, 0)) (by (with_reducible repeat (first | refine blk_drewN ?_ _ | refine blk_drew ?_ | refine blk_alloc ?_ _)); exact BK135.out)) : gb135 ≠ gb144)); have n7_ := Aside0.mk ((by rw [hg]; exact Nat.ne_of_gt (blk_lt (g := gb135) (o := .cells #[.int .i64 a0_0, .slice (some ad143) l0_1.length c0_1] 24 (0, 0)) (by (with_reducible repeat (first | refine blk_drewN ?_ _ | refine blk_drew ?_ | refine blk_alloc ?_ _)); exact BK135.out)) : gb144 ≠ gb135)); clear HO_5; clear BK135; clear HB; have HO_5 := n0_; have BK135 := n1_; have HB := n2_; have BK144 := n3_; have GW144 := n4_; have GE144 := n5_; have NB135_144 := n6_; have NB144_135 := n7_; clear n0_ n1_ n2_ n3_ n4_ n5_ n6_ n7_; clear hb hbox hg; have hnb20 := NB144_135.out; have hnc20 := NB135_144.out; have hcz21_0 : w19.cell? ⟨gb144, 0, none⟩ = some (.string (⟨#[]⟩ : ByteArray)) := (blk_cell BK144.out 0).trans rfl; have hcz21_1 : w19.cell? ⟨gb144, 1, none⟩ = some (.string (⟨#[]⟩ : ByteArray)) := (blk_cell BK144.out 1).trans rfl; have hcz21_2 : w19.cell? ⟨gb144, 2, none⟩ = some (.slice none 0 0) := (blk_cell BK144.out 2).trans rfl; have hcz21_3 : w19.cell? ⟨gb144, 3, none⟩ = some (.slice none 0 0) := (blk_cell BK144.out 3).trans rfl; have hfz21_0 := blk_frozen BK144.out 0; have hfz21_1 := blk_frozen BK144.out 1; have hfz21_2 := blk_frozen BK144.out 2; have hfz21_3 := blk_frozen BK144.out 3; obtain ⟨Ao22, co22, eo22⟩ := Kd.R_slice HO_5.out; subst eo22) | ((with_reducible refine gate_callee (f := 17) rfl ?_); refine goesL_ (some 32) rfl rfl Try.func17 (by kernel_rfl) rfl #[.slice Ao22 x5_1.length co22, .agg #[.string ((rd_T40 l0_1 x25_1).f0), .string ((rd_T40 l0_1 x25_1).f1), .slice A143_2 ((rd_T40 l0_1 x25_1).f2).length c143_2, .slice A143_3 ((rd_T40 l0_1 x25_1).f3).length c143_3]] rfl (by (try simp only [List.map_toArray, List.map_cons, List.map_nil]); first | done | rfl | (simp only [List.length_drop, List.length_take]; rfl)) ?_; (with_reducible refine (evcode_PutG.calls _ _ x5_1 ((rd_T40 l0_1 x25_1).f0) ((rd_T40 l0_1 x25_1).f1) _ _ ((rd_T40 l0_1 x25_1).f2) _ _ ((rd_T40 l0_1 x25_1).f3) t145 t148 _ ?side1 ?side2 ?side3 ?side4 ?side5 ?side6 A17.out).mono ?_); (case side1 => refine (Kd.R_reads' (e := 5) (base := w.heap.size) (ok := fun k_ => True) (n := x5_1.length) (c := co22) ?_).2.2; exact (by (with_reducible repeat (first | apply Kd.R_alloc | apply Kd.R_drewN | apply Kd.R_drew)); exact (Kd.R_mono (Kd.R_far (p := ⟨gb144, 3, none⟩) (Kd.R_far (p := ⟨gb144, 2, none⟩) (Kd.R_far (p := ⟨gb144, 1, none⟩) (Kd.R_far (p := ⟨gb144, 0, none⟩) (Kd.R_types HO_5.out BK144.out (by decide)) (fun _ hk => hk.2) (.string ((rd_T40 l0_1 x25_1).f0))) (fun _ hk => hk.2) (.string ((rd_T40 l0_1 x25_1).f1))) (fun _ hk => hk.2) (.slice A143_2 ((rd_T40 l0_1 x25_1).f2).length c143_2)) (fun _ hk => hk.2) (.slice A143_3 ((rd_T40 l0_1 x25_1).f3).length c143_3)) (fun _ h_ => h_.1)))); (case side2 => exact (Kd.R_reads' HO_5.out).2.1); (case side3 => exact Kd.C_below HR143_2.out (by repeat (first | (with_reducible first | exact HB.out | apply below_alloc | apply pw_below_drewN | apply below_drew1 | refine below_set ?_ GE135.out | refine below_set ?_ GE144.out) | exact HB.out))); (case side4 => exact HC143_2.out); (case side5 => exact Kd.C_below HR143_3.out (by repeat (first | (with_reducible first | exact HB.out | apply below_alloc | apply pw_below_drewN | apply below_drew1 | refine below_set ?_ GE135.out | refine below_set ?_ GE144.out) | exact HB.out))); (case side6 => exact HC143_3.out); rintro e w23 ⟨v146, rfl, ho0, hb⟩; refine ⟨_, rfl, ?_⟩; have n0_ := Aside0.mk (Kd.R_elder' (by (with_reducible repeat (first | apply Kd.R_alloc | apply Kd.R_drewN | apply Kd.R_drew)); exact (Kd.R_mono (Kd.R_far (p := ⟨gb144, 3, none⟩) (Kd.R_far (p := ⟨gb144, 2, none⟩) (Kd.R_far (p := ⟨gb144, 1, none⟩) (Kd.R_far (p := ⟨gb144, 0, none⟩) (Kd.R_types HO_5.out BK144.out (by decide)) (fun _ hk => hk.2) (.string ((rd_T40 l0_1 x25_1).f0))) (fun _ hk => hk.2) (.string ((rd_T40 l0_1 x25_1).f1))) (fun _ hk => hk.2) (.slice A143_2 ((rd_T40 l0_1 x25_1).f2).length c143_2)) (fun _ hk => hk.2) (.slice A143_3 ((rd_T40 l0_1 x25_1).f3).length c143_3)) (fun _ h_ => h_.1))) (Kd.R_base ho0) hb); have n1_ := Aside0.mk (Kd.R_lower (Kd.R_new' ho0 (Kd.R_lt (by (with_reducible repeat (first | apply Kd.R_alloc | apply Kd.R_drewN | apply Kd.R_drew)); exact (Kd.R_mono (Kd.R_far (p := ⟨gb144, 3, none⟩) (Kd.R_far (p := ⟨gb144, 2, none⟩) (Kd.R_far (p := ⟨gb144, 1, none⟩) (Kd.R_far (p := ⟨gb144, 0, none⟩) (Kd.R_types HO_5.out BK144.out (by decide)) (fun _ hk => hk.2) (.string ((rd_T40 l0_1 x25_1).f0))) (fun _ hk => hk.2) (.string ((rd_T40 l0_1 x25_1).f1))) (fun _ hk => hk.2) (.slice A143_2 ((rd_T40 l0_1 x25_1).f2).length c143_2)) (fun _ hk => hk.2) (.slice A143_3 ((rd_T40 l0_1 x25_1).f3).length c143_3)) (fun _ h_ => h_.1))))) (below_size (by repeat (first | (with_reducible first | exact HB.out | apply below_alloc | apply pw_below_drewN | apply below_drew1 | refine below_set ?_ GE135.out | refine below_set ?_ GE144.out) | exact HB.out)))); have n2_ := Aside0.mk (blk_below (g := gb135) (o := .cells #[.int .i64 a0_0, .slice (some ad143) l0_1.length c0_1] 24 (0, 0)) (by (with_reducible repeat (first | refine blk_drewN ?_ _ | refine blk_drew ?_ | refine blk_alloc ?_ _)); refine blk_far ?_ NB135_144.out _; (with_reducible repeat (first | refine blk_drewN ?_ _ | refine blk_drew ?_ | refine blk_alloc ?_ _)); refine blk_far ?_ NB135_144.out _; (with_reducible repeat (first | refine blk_drewN ?_ _ | refine blk_drew ?_ | refine blk_alloc ?_ _)); refine blk_far ?_ NB135_144.out _; (with_reducible repeat (first | refine blk_drewN ?_ _ | refine blk_drew ?_ | refine blk_alloc ?_ _)); refine blk_far ?_ NB135_144.out _; (with_reducible repeat (first | refine blk_drewN ?_ _ | refine blk_drew ?_ | refine blk_alloc ?_ _)); exact BK135.out) hb); have n3_ := Aside0.mk (blk_below (g := gb144) (o := .cells #[.string ((rd_T40 l0_1 x25_1).f0), .string ((rd_T40 l0_1 x25_1).f1), .slice A143_2 ((rd_T40 l0_1 x25_1).f2).length c143_2, .slice A143_3 ((rd_T40 l0_1 x25_1).f3).length c143_3] 40 (0, 0)) (by (with_reducible repeat (first | refine blk_drewN ?_ _ | refine blk_drew ?_ | refine blk_alloc ?_ _)); refine blk_put (cs := #[.string ((rd_T40 l0_1 x25_1).f0), .string ((rd_T40 l0_1 x25_1).f1), .slice A143_2 ((rd_T40 l0_1 x25_1).f2).length c143_2, .slice none 0 0]) ?_ 3 _ rfl; (with_reducible repeat (first | refine blk_drewN ?_ _ | refine blk_drew ?_ | refine blk_alloc ?_ _)); refine blk_put (cs := #[.string ((rd_T40 l0_1 x25_1).f0), .string ((rd_T40 l0_1 x25_1).f1), .slice none 0 0, .slice none 0 0]) ?_ 2 _ rfl; (with_reducible repeat (first | refine blk_drewN ?_ _ | refine blk_drew ?_ | refine blk_alloc ?_ _)); refine blk_put (cs := #[.string ((rd_T40 l0_1 x25_1).f0), .string (⟨#[]⟩ : ByteArray), .slice none 0 0, .slice none 0 0]) ?_ 1 _ rfl; (with_reducible repeat (first | refine blk_drewN ?_ _ | refine blk_drew ?_ | refine blk_alloc ?_ _)); refine blk_put (cs := #[.string (⟨#[]⟩ : ByteArray), .string (⟨#[]⟩ : ByteArray), .slice none 0 0, .slice none 0 0]) ?_ 0 _ rfl; (with_reducible repeat (first | refine blk_drewN ?_ _ | refine blk_drew ?_ | refine blk_alloc ?_ _)); exact BK144.out) hb); have n4_ := Aside0.mk (below_step (by repeat (first | (with_reducible first | exact HB.out | apply below_alloc | apply pw_below_drewN | apply below_drew1 | refine below_set ?_ GE135.out | refine below_set ?_ GE144.out) | exact HB.out)) hb); clear HO_5; clear BK135; clear BK144; clear HB; have HO_5 := n0_; have HO147 := n1_; have BK135 := n2_; have BK144 := n3_; have HB := n4_; clear n0_ n1_ n2_ n3_ n4_; (try clear hb); (try clear hb2); (try clear hk); (try clear hi); (try clear ho0)))
                go_roundg k1
                case measure => have := HK1.out; omega
                case rel => exact ⟨(t145), (wrap64 (x25_1 + 1)), (by first | rfl | (simp; done) | (simp [*]; done)), H', ⟨by have := HK1.out; omega⟩, ⟨by (with_reducible repeat (first | apply Kd.R_alloc | apply Kd.R_drewN | apply Kd.R_drew)); exact Kd.R_mono HO147.out (fun _ hk => trivial)⟩, ⟨by (with_reducible repeat (first | refine blk_drewN ?_ _ | refine blk_drew ?_ | refine blk_alloc ?_ _)); exact BK135.out⟩, ⟨by repeat (first | (with_reducible first | exact HB.out | apply below_alloc | apply pw_below_drewN | apply below_drew1 | refine below_set ?_ GE135.out | refine below_set ?_ GE144.out) | exact HB.out)⟩⟩
              · rw [if_neg c18] at H
                have c18b0 : (t148 == 0) = false := beq_eq_false_iff_ne.mpr c18
                have c18b1 : (t148 != 0) = true := bne_iff_ne.mpr c18
                simp only [Option.some.injEq, Prod.mk.injEq] at H
                obtain ⟨rfl, rfl⟩ := H
                have p143 : 0 ≤ (x25_1 : Int) := of_decide_eq_true (by first | (with_reducible assumption) | assumption)
                have q143 : x25_1 < (l0_1.length : Int) := of_decide_eq_true (by first | (with_reducible assumption) | assumption)
                obtain ⟨ad143, A143_2, c143_2, A143_3, c143_3, e143, hx143_0, hx143_1, hx143_2, hx143_3, hl143_2, hi143_2, hl143_3, hi143_3⟩ := at_T40 HR0_1.out x25_1 p143 q143
                cases e143
                replace hx143_0 := (HB.out.cell (World.block_lt_of_cell? w _ hx143_0)).trans hx143_0
                replace hx143_1 := (HB.out.cell (World.block_lt_of_cell? w _ hx143_1)).trans hx143_1
                replace hx143_2 := (HB.out.cell (World.block_lt_of_cell? w _ hx143_2)).trans hx143_2
                replace hx143_3 := (HB.out.cell (World.block_lt_of_cell? w _ hx143_3)).trans hx143_3
                have HR143_2 := Aside0.mk hi143_2
                have HC143_2 := Aside0.mk hl143_2
                clear hi143_2 hl143_2
                have HR143_3 := Aside0.mk hi143_3
                have HC143_3 := Aside0.mk hl143_3
                clear hi143_3 hl143_3
                replace p143 := eq_true p143
                replace q143 := eq_true q143
                go_wp2_with (first | ((with_reducible refine gate_dst (N := 7) rfl ?_); refine box_event ?hg (N := 7) ?hd (cs := #[.string (⟨#[]⟩ : ByteArray), .string (⟨#[]⟩ : ByteArray), .slice none 0 0, .slice none 0 0]) (t := 40) ?hr ?_; (case hd => rfl); (case hg => rfl); (case hr => first | (go_simp; done) | (go_simp; rfl)); intro gb144 hg w24 hbox hb; have n0_ := Aside0.mk (Kd.R_below (by (with_reducible repeat (first | apply Kd.R_alloc | apply Kd.R_drewN | apply Kd.R_drew)); exact HO_5.out) hb); have n1_ := Aside0.mk (blk_below (g := gb135) (o := .cells #[.int .i64 a0_0, .slice (some ad143) l0_1.length c0_1] 24 (0, 0)) (by (with_reducible repeat (first | refine blk_drewN ?_ _ | refine blk_drew ?_ | refine blk_alloc ?_ _)); exact BK135.out) hb); have n2_ := Aside0.mk (below_step (by repeat (first | (with_reducible first | exact HB.out | apply below_alloc | apply pw_below_drewN | apply below_drew1 | refine below_set ?_ GE135.out) | exact HB.out)) hb); have n3_ := Aside0.mk (hbox); have n4_ := Aside0.mk ((by rw [hg]; exact (below_size (by repeat (first | (with_reducible first | exact HB.out | apply below_alloc | apply pw_below_drewN | apply below_drew1 | refine below_set ?_ GE135.out) | exact HB.out))) : w.heap.size ≤ gb144)); have n5_ := Aside0.mk ((by rw [hg]; exact (below_size (by repeat (first | (with_reducible first | exact HB.out | apply below_alloc | apply pw_below_drewN | apply below_drew1 | refine below_set ?_ GE135.out) | exact HB.out))) : w.heap.size ≤ gb144)); have n6_ := Aside0.mk ((by rw [hg]; exact Nat.ne_of_lt (blk_lt (g := gb135) (o := .cells #[.int .i64 a0_0, .slice (some ad143) l0_1.length c0_1] 24 (0, 0)) (by (with_reducible repeat (first | refine blk_drewN ?_ _ | refine blk_drew ?_ | refine blk_alloc ?_ _)); exact BK135.out)) : gb135 ≠ gb144)); have n7_ := Aside0.mk ((by rw [hg]; exact Nat.ne_of_gt (blk_lt (g := gb135) (o := .cells #[.int .i64 a0_0, .slice (some ad143) l0_1.length c0_1] 24 (0, 0)) (by (with_reducible repeat (first | refine blk_drewN ?_ _ | refine blk_drew ?_ | refine blk_alloc ?_ _)); exact BK135.out)) : gb144 ≠ gb135)); clear HO_5; clear BK135; clear HB; have HO_5 := n0_; have BK135 := n1_; have HB := n2_; have BK144 := n3_; have GW144 := n4_; have GE144 := n5_; have NB135_144 := n6_; have NB144_135 := n7_; clear n0_ n1_ n2_ n3_ n4_ n5_ n6_ n7_; clear hb hbox hg; have hnb25 := NB144_135.out; have hnc25 := NB135_144.out; have hcz26_0 : w24.cell? ⟨gb144, 0, none⟩ = some (.string (⟨#[]⟩ : ByteArray)) := (blk_cell BK144.out 0).trans rfl; have hcz26_1 : w24.cell? ⟨gb144, 1, none⟩ = some (.string (⟨#[]⟩ : ByteArray)) := (blk_cell BK144.out 1).trans rfl; have hcz26_2 : w24.cell? ⟨gb144, 2, none⟩ = some (.slice none 0 0) := (blk_cell BK144.out 2).trans rfl; have hcz26_3 : w24.cell? ⟨gb144, 3, none⟩ = some (.slice none 0 0) := (blk_cell BK144.out 3).trans rfl; have hfz26_0 := blk_frozen BK144.out 0; have hfz26_1 := blk_frozen BK144.out 1; have hfz26_2 := blk_frozen BK144.out 2; have hfz26_3 := blk_frozen BK144.out 3; obtain ⟨Ao27, co27, eo27⟩ := Kd.R_slice HO_5.out; subst eo27) | ((with_reducible refine gate_callee (f := 17) rfl ?_); refine goesL_ (some 32) rfl rfl Try.func17 (by kernel_rfl) rfl #[.slice Ao27 x5_1.length co27, .agg #[.string ((rd_T40 l0_1 x25_1).f0), .string ((rd_T40 l0_1 x25_1).f1), .slice A143_2 ((rd_T40 l0_1 x25_1).f2).length c143_2, .slice A143_3 ((rd_T40 l0_1 x25_1).f3).length c143_3]] rfl (by (try simp only [List.map_toArray, List.map_cons, List.map_nil]); first | done | rfl | (simp only [List.length_drop, List.length_take]; rfl)) ?_; (with_reducible refine (evcode_PutG.calls _ _ x5_1 ((rd_T40 l0_1 x25_1).f0) ((rd_T40 l0_1 x25_1).f1) _ _ ((rd_T40 l0_1 x25_1).f2) _ _ ((rd_T40 l0_1 x25_1).f3) t145 t148 _ ?side1 ?side2 ?side3 ?side4 ?side5 ?side6 A17.out).mono ?_); (case side1 => refine (Kd.R_reads' (e := 5) (base := w.heap.size) (ok := fun k_ => True) (n := x5_1.length) (c := co27) ?_).2.2; exact (by (with_reducible repeat (first | apply Kd.R_alloc | apply Kd.R_drewN | apply Kd.R_drew)); exact (Kd.R_mono (Kd.R_far (p := ⟨gb144, 3, none⟩) (Kd.R_far (p := ⟨gb144, 2, none⟩) (Kd.R_far (p := ⟨gb144, 1, none⟩) (Kd.R_far (p := ⟨gb144, 0, none⟩) (Kd.R_types HO_5.out BK144.out (by decide)) (fun _ hk => hk.2) (.string ((rd_T40 l0_1 x25_1).f0))) (fun _ hk => hk.2) (.string ((rd_T40 l0_1 x25_1).f1))) (fun _ hk => hk.2) (.slice A143_2 ((rd_T40 l0_1 x25_1).f2).length c143_2)) (fun _ hk => hk.2) (.slice A143_3 ((rd_T40 l0_1 x25_1).f3).length c143_3)) (fun _ h_ => h_.1)))); (case side2 => exact (Kd.R_reads' HO_5.out).2.1); (case side3 => exact Kd.C_below HR143_2.out (by repeat (first | (with_reducible first | exact HB.out | apply below_alloc | apply pw_below_drewN | apply below_drew1 | refine below_set ?_ GE135.out | refine below_set ?_ GE144.out) | exact HB.out))); (case side4 => exact HC143_2.out); (case side5 => exact Kd.C_below HR143_3.out (by repeat (first | (with_reducible first | exact HB.out | apply below_alloc | apply pw_below_drewN | apply below_drew1 | refine below_set ?_ GE135.out | refine below_set ?_ GE144.out) | exact HB.out))); (case side6 => exact HC143_3.out); rintro e w28 ⟨v146, rfl, ho0, hb⟩; refine ⟨_, rfl, ?_⟩; have n0_ := Aside0.mk (Kd.R_elder' (by (with_reducible repeat (first | apply Kd.R_alloc | apply Kd.R_drewN | apply Kd.R_drew)); exact (Kd.R_mono (Kd.R_far (p := ⟨gb144, 3, none⟩) (Kd.R_far (p := ⟨gb144, 2, none⟩) (Kd.R_far (p := ⟨gb144, 1, none⟩) (Kd.R_far (p := ⟨gb144, 0, none⟩) (Kd.R_types HO_5.out BK144.out (by decide)) (fun _ hk => hk.2) (.string ((rd_T40 l0_1 x25_1).f0))) (fun _ hk => hk.2) (.string ((rd_T40 l0_1 x25_1).f1))) (fun _ hk => hk.2) (.slice A143_2 ((rd_T40 l0_1 x25_1).f2).length c143_2)) (fun _ hk => hk.2) (.slice A143_3 ((rd_T40 l0_1 x25_1).f3).length c143_3)) (fun _ h_ => h_.1))) (Kd.R_base ho0) hb); have n1_ := Aside0.mk (Kd.R_lower (Kd.R_new' ho0 (Kd.R_lt (by (with_reducible repeat (first | apply Kd.R_alloc | apply Kd.R_drewN | apply Kd.R_drew)); exact (Kd.R_mono (Kd.R_far (p := ⟨gb144, 3, none⟩) (Kd.R_far (p := ⟨gb144, 2, none⟩) (Kd.R_far (p := ⟨gb144, 1, none⟩) (Kd.R_far (p := ⟨gb144, 0, none⟩) (Kd.R_types HO_5.out BK144.out (by decide)) (fun _ hk => hk.2) (.string ((rd_T40 l0_1 x25_1).f0))) (fun _ hk => hk.2) (.string ((rd_T40 l0_1 x25_1).f1))) (fun _ hk => hk.2) (.slice A143_2 ((rd_T40 l0_1 x25_1).f2).length c143_2)) (fun _ hk => hk.2) (.slice A143_3 ((rd_T40 l0_1 x25_1).f3).length c143_3)) (fun _ h_ => h_.1))))) (below_size (by repeat (first | (with_reducible first | exact HB.out | apply below_alloc | apply pw_below_drewN | apply below_drew1 | refine below_set ?_ GE135.out | refine below_set ?_ GE144.out) | exact HB.out)))); have n2_ := Aside0.mk (blk_below (g := gb135) (o := .cells #[.int .i64 a0_0, .slice (some ad143) l0_1.length c0_1] 24 (0, 0)) (by (with_reducible repeat (first | refine blk_drewN ?_ _ | refine blk_drew ?_ | refine blk_alloc ?_ _)); refine blk_far ?_ NB135_144.out _; (with_reducible repeat (first | refine blk_drewN ?_ _ | refine blk_drew ?_ | refine blk_alloc ?_ _)); refine blk_far ?_ NB135_144.out _; (with_reducible repeat (first | refine blk_drewN ?_ _ | refine blk_drew ?_ | refine blk_alloc ?_ _)); refine blk_far ?_ NB135_144.out _; (with_reducible repeat (first | refine blk_drewN ?_ _ | refine blk_drew ?_ | refine blk_alloc ?_ _)); refine blk_far ?_ NB135_144.out _; (with_reducible repeat (first | refine blk_drewN ?_ _ | refine blk_drew ?_ | refine blk_alloc ?_ _)); exact BK135.out) hb); have n3_ := Aside0.mk (blk_below (g := gb144) (o := .cells #[.string ((rd_T40 l0_1 x25_1).f0), .string ((rd_T40 l0_1 x25_1).f1), .slice A143_2 ((rd_T40 l0_1 x25_1).f2).length c143_2, .slice A143_3 ((rd_T40 l0_1 x25_1).f3).length c143_3] 40 (0, 0)) (by (with_reducible repeat (first | refine blk_drewN ?_ _ | refine blk_drew ?_ | refine blk_alloc ?_ _)); refine blk_put (cs := #[.string ((rd_T40 l0_1 x25_1).f0), .string ((rd_T40 l0_1 x25_1).f1), .slice A143_2 ((rd_T40 l0_1 x25_1).f2).length c143_2, .slice none 0 0]) ?_ 3 _ rfl; (with_reducible repeat (first | refine blk_drewN ?_ _ | refine blk_drew ?_ | refine blk_alloc ?_ _)); refine blk_put (cs := #[.string ((rd_T40 l0_1 x25_1).f0), .string ((rd_T40 l0_1 x25_1).f1), .slice none 0 0, .slice none 0 0]) ?_ 2 _ rfl; (with_reducible repeat (first | refine blk_drewN ?_ _ | refine blk_drew ?_ | refine blk_alloc ?_ _)); refine blk_put (cs := #[.string ((rd_T40 l0_1 x25_1).f0), .string (⟨#[]⟩ : ByteArray), .slice none 0 0, .slice none 0 0]) ?_ 1 _ rfl; (with_reducible repeat (first | refine blk_drewN ?_ _ | refine blk_drew ?_ | refine blk_alloc ?_ _)); refine blk_put (cs := #[.string (⟨#[]⟩ : ByteArray), .string (⟨#[]⟩ : ByteArray), .slice none 0 0, .slice none 0 0]) ?_ 0 _ rfl; (with_reducible repeat (first | refine blk_drewN ?_ _ | refine blk_drew ?_ | refine blk_alloc ?_ _)); exact BK144.out) hb); have n4_ := Aside0.mk (below_step (by repeat (first | (with_reducible first | exact HB.out | apply below_alloc | apply pw_below_drewN | apply below_drew1 | refine below_set ?_ GE135.out | refine below_set ?_ GE144.out) | exact HB.out)) hb); clear HO_5; clear BK135; clear BK144; clear HB; have HO_5 := n0_; have HO147 := n1_; have BK135 := n2_; have BK144 := n3_; have HB := n4_; clear n0_ n1_ n2_ n3_ n4_; (try clear hb); (try clear hb2); (try clear hk); (try clear hi); (try clear ho0)))
                go_ret2
                exact ⟨_, by first | rfl | (simp [errW_none, errW_some] <;> rfl) | (simp [*, errW_none, errW_some] <;> rfl), by first | exact Kd.R_nil _ _ _ _ _ | exact Kd.N_nil _ _ _ _ _ | exact Kd.V_nil _ _ _ _ _ | exact Kd.Q_nil _ _ _ _ _ | exact Kd.S_nil _ _ _ _ _, by repeat (first | (with_reducible first | exact HB.out | apply below_alloc | apply pw_below_drewN | apply below_drew1 | refine below_set ?_ GE135.out | refine below_set ?_ GE144.out) | exact HB.out)⟩
            · rw [if_neg c16] at H
              exact absurd H (by simp)
          · rw [if_neg c15] at H
            exact absurd H (by simp)
        · rw [if_neg c14] at H
          have c14b0 : decide (x25_1 < (l0_1.length : Int)) = false := decide_eq_false c14
          clear c14
          simp only [Option.some.injEq, Prod.mk.injEq] at H
          obtain ⟨rfl, rfl⟩ := H
          go_wp2
          go_ret2
          exact ⟨_, by first | rfl | (simp [errW_none, errW_some] <;> rfl) | (simp [*, errW_none, errW_some] <;> rfl), by (with_reducible repeat (first | apply Kd.R_alloc | apply Kd.R_drewN | apply Kd.R_drew)); exact HO_5.out, by repeat (first | (with_reducible first | exact HB.out | apply below_alloc | apply pw_below_drewN | apply below_drew1 | refine below_set ?_ GE135.out) | exact HB.out)⟩
  · rw [if_neg c3] at H
    have c3b0 : (t136 == 0) = false := beq_eq_false_iff_ne.mpr c3
    have c3b1 : (t136 != 0) = true := bne_iff_ne.mpr c3
    simp only [Option.some.injEq, Prod.mk.injEq] at H
    obtain ⟨rfl, rfl⟩ := H
    go_enter Try.func11, Try.ntmps11
    go_wp2_with (first | ((with_reducible refine gate_dst (N := 1) rfl ?_); refine box_event ?hg (N := 1) ?hd (cs := #[.int .i64 a0_0, .slice A0_1 l0_1.length c0_1]) (t := 24) ?hr ?_; (case hd => rfl); (case hg => rfl); (case hr => first | (go_simp; done) | (go_simp; rfl)); intro gb135 hg w29 hbox hb; have n0_ := Aside0.mk (below_step (by repeat (first | (with_reducible first | exact HB.out | apply below_alloc | apply pw_below_drewN | apply below_drew1) | exact HB.out)) hb); have n1_ := Aside0.mk (hbox); have n2_ := Aside0.mk ((by rw [hg]; exact (below_size (by repeat (first | (with_reducible first | exact HB.out | apply below_alloc | apply pw_below_drewN | apply below_drew1) | exact HB.out))) : w.heap.size ≤ gb135)); have n3_ := Aside0.mk ((by rw [hg]; exact (below_size (by repeat (first | (with_reducible first | exact HB.out | apply below_alloc | apply pw_below_drewN | apply below_drew1) | exact HB.out))) : w.heap.size ≤ gb135)); clear HB; have HB := n0_; have BK135 := n1_; have GW135 := n2_; have GE135 := n3_; clear n0_ n1_ n2_ n3_; clear hb hbox hg; have hcz30_0 : w29.cell? ⟨gb135, 0, none⟩ = some (.int .i64 a0_0) := (blk_cell BK135.out 0).trans rfl; have hcz30_1 : w29.cell? ⟨gb135, 1, none⟩ = some (.slice A0_1 l0_1.length c0_1) := (blk_cell BK135.out 1).trans rfl; have hfz30_0 := blk_frozen BK135.out 0; have hfz30_1 := blk_frozen BK135.out 1) | ((with_reducible refine gate_callee (f := 13) rfl ?_); refine goesL_ (some 11) rfl rfl Try.func13 (by kernel_rfl) rfl #[.agg #[.int .i64 a0_0, .slice A0_1 l0_1.length c0_1]] rfl (by (try simp only [List.map_toArray, List.map_cons, List.map_nil]); first | done | rfl | (simp only [List.length_drop, List.length_take]; rfl)) ?_; (with_reducible refine (batch_May.calls a0_0 _ _ l0_1 t136 _ ?side1 ?side2 A2.out).mono ?_); (case side1 => repeat (first | exact (Kd.C_below HR0_1.out HB.out) | (with_reducible refine Kd.C_alloc ?_ _) | (with_reducible refine Kd.C_drewN ?_ _) | (with_reducible refine Kd.C_drew ?_))); (case side2 => exact HC0_1.out); rintro e w31 ⟨rfl, hb⟩; refine ⟨_, rfl, ?_⟩; have n0_ := Aside0.mk (blk_below (g := gb135) (o := .cells #[.int .i64 a0_0, .slice A0_1 l0_1.length c0_1] 24 (0, 0)) (by (with_reducible repeat (first | refine blk_drewN ?_ _ | refine blk_drew ?_ | refine blk_alloc ?_ _)); exact BK135.out) hb); have n1_ := Aside0.mk (below_step (by repeat (first | (with_reducible first | exact HB.out | apply below_alloc | apply pw_below_drewN | apply below_drew1 | refine below_set ?_ GE135.out) | exact HB.out)) hb); clear BK135; clear HB; have BK135 := n0_; have HB := n1_; clear n0_ n1_; (try clear hb); (try clear hb2); (try clear hk); (try clear hi)))
    go_ret2
    exact ⟨_, by first | rfl | (simp [errW_none, errW_some] <;> rfl) | (simp [*, errW_none, errW_some] <;> rfl), by first | exact Kd.R_nil _ _ _ _ _ | exact Kd.N_nil _ _ _ _ _ | exact Kd.V_nil _ _ _ _ _ | exact Kd.Q_nil _ _ _ _ _ | exact Kd.S_nil _ _ _ _ _, by repeat (first | (with_reducible first | exact HB.out | apply below_alloc | apply pw_below_drewN | apply below_drew1 | refine below_set ?_ GE135.out) | exact HB.out)⟩

end Go.Proofs.Ytafeakcajhhkoaa.Prt
namespace Go.Proofs.Ytafeakcajhhkoaa.Prt
open Go.RowKit Go.Proofs.YtafeakcajhhkoaaW.PrintWords Go.Proofs.YtafeakcajhhkoaaW.PrintLast Go.Proofs.YtafeakcajhhkoaaW.PrintMore Go.Proofs.Ytafeakcajhhkoaa.Num Go.Proofs.Ytafeakcajhhkoaa.Nam
set_option linter.unusedVariables false
set_option linter.unusedSimpArgs false

theorem fitX_iff {x : S40} : fitX x = true ↔ x.f0.size ≤ 9223372036854775807 ∧ x.f1.size ≤ 9223372036854775807 ∧ (∀ y ∈ x.f2, y.size ≤ 9223372036854775807) ∧ (∀ y ∈ x.f3, y.f0.size ≤ 9223372036854775807) ∧ x.f3.length < 8796093022208 := fitE_iff
theorem OkX.fit {x : S40} (h : OkX x) : fitX x = true ∧ x.f2.length ≤ 9223372036854775807 := by
  obtain ⟨z1, z2, z3, z4, z5, z6⟩ := OkE.sizes h
  have h6 := h.ht6
  have h4 := h.hf4
  exact ⟨fitX_iff.2 ⟨z1, z2, z3, fun y hy => (z4 y hy).1, by omega⟩, by omega⟩
theorem evE_zero {x : S40} : evE x = 0 ↔ OkX x := okE_iff _ _ _ _
theorem firstE_zero {l : List S40} : firstE l = 0 ↔ ∀ x ∈ l, OkX x := by
  induction l with
  | nil => simp [firstE]
  | cons x r ih =>
    rw [firstE]
    by_cases h : evE x = 0
    · rw [if_pos h, ih]
      simp only [List.mem_cons, forall_eq_or_imp]
      exact ⟨fun g => ⟨evE_zero.1 h, g⟩, fun g => g.2⟩
    · rw [if_neg h]
      exact ⟨fun g => absurd g h, fun g => absurd (evE_zero.2 (g x (by simp))) h⟩
/-- A batch as bytes. -/
def encB (a : Int) (l : List S40) : List Int := enc a ++ (enc (l.length : Int) ++ encEs l)
/-- What a batch is in which nothing is wrong. -/
structure OkB (a : Int) (l : List S40) : Prop where
  h1 : 1 ≤ l.length
  h16 : l.length ≤ 16
  ho : ∀ x ∈ l, OkX x
  h0 : 0 ≤ a
  hm : a ≤ 1048576 - (l.length : Int)
theorem mayB_zero {a : Int} {l : List S40} : mayB a l = 0 ↔ OkB a l := by
  unfold mayB
  constructor
  · intro h
    by_cases c1 : l.length = 0
    · rw [if_pos c1] at h; cases h
    rw [if_neg c1] at h
    by_cases c2 : 16 < l.length
    · rw [if_pos c2] at h; cases h
    rw [if_neg c2] at h
    by_cases c3 : firstE l ≠ 0
    · rw [if_pos c3] at h; exact absurd h c3
    rw [if_neg c3] at h
    by_cases c4 : a < 0 ∨ 1048576 - (l.length : Int) < a
    · rw [if_pos c4] at h; cases h
    exact ⟨by omega, by omega, firstE_zero.1 (by simpa using c3), by omega, by omega⟩
  · rintro ⟨h1, h2, h3, h4, h5⟩
    rw [if_neg (by omega), if_neg (by omega), if_neg (by rw [firstE_zero.2 h3]; simp), if_neg (by omega)]
theorem OkB.fit {a : Int} {l : List S40} (h : OkB a l) : l.all fitX = true := List.all_eq_true.2 fun x hx => (h.ho x hx).fit.1
theorem putG_okX {l0 : List Int} {x : S40} (hl : l0.length ≤ 140737488340000) (h : OkX x) : evcode_PutG.f l0 x.f0 x.f1 x.f2 x.f3 = some (l0 ++ encX x, 0) := by
  rw [putG_ok hl h.fit.2 h.fit.1, if_pos ((okE_iff _ _ _ _).2 h)]; rfl
theorem batchPut_loop (l : List S40) (hl : l.length ≤ 16) (ho : ∀ x ∈ l, OkX x) : ∀ (n i k : Nat) (x : List Int), i + n = l.length → n < k → x.length ≤ 100 + 700 * i → batch_Put.l0 k x l (l.length : Int) (i : Int) = some (x ++ encEs (l.drop i), 0) := by
  intro n
  induction n with
  | zero =>
    intro i k x hi hk hx
    obtain ⟨k, rfl⟩ : ∃ m, k = m + 1 := ⟨k - 1, by omega⟩
    rw [batch_Put.l0, if_neg (by omega), List.drop_eq_nil_of_le (by omega)]
    simp [encEs]
  | succ n ih =>
    intro i k x hi hk hx
    obtain ⟨k, rfl⟩ : ∃ m, k = m + 1 := ⟨k - 1, by omega⟩
    have hm := ho _ (rdE_mem (l := l) (i := i) (by omega))
    have hz := encX_size hm
    rw [batch_Put.l0, if_pos (by omega), if_pos (by omega), if_pos (by omega), putG_okX (by omega) hm, drop_rdE l i (by omega), encEs_cons]
    simp only [Option.bind_some, if_true]
    rw [succW i (by omega), ih (i + 1) k _ (by omega) (by omega) (by rw [List.length_append]; omega), List.append_assoc]
def batch_PutG.f (a0_0 : Int) (l0_1 : List (S40)) : Option (List Int × Int) := if l0_1.all fitX = true then some (if mayB a0_0 l0_1 = 0 then (encB a0_0 l0_1, 0) else ([], mayB a0_0 l0_1)) else none
theorem batch_PutG.val {a0_0 : Int} {l0_1 : List (S40)} {r1 : List Int} {r2 : Int} (h : batch_PutG.f a0_0 l0_1 = some (r1, r2)) : ∃ k, batch_Put.f k a0_0 l0_1 = some (r1, r2) := by
  unfold batch_PutG.f at h
  by_cases hc : l0_1.all fitX = true
  · rw [if_pos hc] at h
    rw [← h]
    refine ⟨17, ?_⟩
    have m1 : batch_May.f a0_0 l0_1 = some (mayB a0_0 l0_1) := if_pos hc
    unfold batch_Put.f
    rw [m1]
    simp only [Option.bind_some]
    by_cases h0 : mayB a0_0 l0_1 = 0
    · obtain ⟨h1, h2, h3, h4, h5⟩ := mayB_zero.1 h0
      have e1 := enc_len (x := a0_0) ⟨by omega, by omega⟩
      have e2 := enc_len (x := (l0_1.length : Int)) ⟨by omega, by omega⟩
      have m2 : num_Put.f [] a0_0 = some ([] ++ enc a0_0) := if_pos ⟨by simp, by omega, by omega⟩
      have m3 : num_Put.f (enc a0_0) (l0_1.length : Int) = some (enc a0_0 ++ enc (l0_1.length : Int)) := if_pos ⟨by omega, by omega, by omega⟩
      rw [if_pos h0, if_pos h0, m2]
      simp only [Option.bind_some, List.nil_append]
      rw [m3]
      simp only [Option.bind_some]
      have := batchPut_loop l0_1 h2 h3 l0_1.length 0 17 (enc a0_0 ++ enc (l0_1.length : Int)) (by omega) (by omega) (by rw [List.length_append]; omega)
      rw [List.drop_zero, List.append_assoc] at this
      exact this
    · rw [if_neg h0, if_neg h0]
  · rw [if_neg hc] at h; cases h
theorem batch_PutG.calls (a0_0 : Int) (A0_1 : Option Addr) (c0_1 : Nat) (l0_1 : List (S40)) (r1 : List Int) (r2 : Int) (w : World) (hr0_1 : Kd.C k40 w A0_1 l0_1.length l0_1) (hc0_1 : l0_1.length ≤ c0_1) (h : batch_PutG.f a0_0 l0_1 = some (r1, r2)) :
    Calls Try.prog 11 #[.agg #[.int .i64 a0_0, .slice A0_1 l0_1.length c0_1]] w fun e w' => ∃ v0_ : Value, e = .returned (.tuple #[v0_, .int .i64 r2]) ∧ Kd.R (Kd.int .u8) 5 w' w.heap.size (fun _ => True) v0_ r1 ∧ Below w.heap.size w w' := by
  obtain ⟨k, hk⟩ := batch_PutG.val h
  exact batch_Put.calls k a0_0 A0_1 c0_1 l0_1 r1 r2 w hr0_1 hc0_1 hk
end Go.Proofs.Ytafeakcajhhkoaa.Prt
namespace Go.Proofs.Ytafeakcajhhkoaa.Prt
open Go.RowKit Go.Proofs.YtafeakcajhhkoaaW.PrintWords Go.Proofs.YtafeakcajhhkoaaW.PrintLast Go.Proofs.YtafeakcajhhkoaaW.PrintMore
attribute [local go_sem] max2_int min2_int max_two min_two max_three min_three max_four min_four   -- for this text's walks alone
set_option linter.unusedVariables false
set_option linter.unusedSimpArgs false

end Go.Proofs.Ytafeakcajhhkoaa.Prt
namespace Go.Proofs.Ytafeakcajhhkoaa.Prt
open Go.RowKit Go.Proofs.YtafeakcajhhkoaaW.PrintWords Go.Proofs.YtafeakcajhhkoaaW.PrintLast Go.Proofs.YtafeakcajhhkoaaW.PrintMore Go.Proofs.Ytafeakcajhhkoaa.Num Go.Proofs.Ytafeakcajhhkoaa.Nam
set_option linter.unusedVariables false
set_option linter.unusedSimpArgs false

def fitX2 (x : S40) : Bool := fitX x && decide (x.f2.length ≤ 9223372036854775807)
theorem fitX2_all {l : List S40} (h : l.all fitX2 = true) : (∀ x ∈ l, fitX x = true ∧ x.f2.length ≤ 9223372036854775807) ∧ l.all fitX = true := by
  have : ∀ x ∈ l, fitX x = true ∧ x.f2.length ≤ 9223372036854775807 := fun x hx => by
    have := List.all_eq_true.1 h x hx
    unfold fitX2 at this
    rwa [Bool.and_eq_true, decide_eq_true_iff] at this
  exact ⟨this, List.all_eq_true.2 fun x hx => (this x hx).1⟩
end Go.Proofs.Ytafeakcajhhkoaa.Prt
namespace Go.Proofs.Ytafeakcajhhkoaa.Prt
open Go.RowKit Go.Proofs.YtafeakcajhhkoaaW.PrintWords Go.Proofs.YtafeakcajhhkoaaW.PrintLast Go.Proofs.YtafeakcajhhkoaaW.PrintMore
attribute [local go_sem] max2_int min2_int max_two min_two max_three min_three max_four min_four   -- for this text's walks alone
set_option linter.unusedVariables false
set_option linter.unusedSimpArgs false

end Go.Proofs.Ytafeakcajhhkoaa.Prt
namespace Go.Proofs.Ytafeakcajhhkoaa.Prt
open Go.RowKit Go.Proofs.YtafeakcajhhkoaaW.PrintWords Go.Proofs.YtafeakcajhhkoaaW.PrintLast Go.Proofs.YtafeakcajhhkoaaW.PrintMore Go.Proofs.Ytafeakcajhhkoaa.Num Go.Proofs.Ytafeakcajhhkoaa.Nam
set_option linter.unusedVariables false
set_option linter.unusedSimpArgs false

end Go.Proofs.Ytafeakcajhhkoaa.Prt
namespace Go.Proofs.Ytafeakcajhhkoaa.Prt
open Go.RowKit Go.Proofs.YtafeakcajhhkoaaW.PrintWords Go.Proofs.YtafeakcajhhkoaaW.PrintLast Go.Proofs.YtafeakcajhhkoaaW.PrintMore
attribute [local go_sem] max2_int min2_int max_two min_two max_three min_three max_four min_four   -- for this text's walks alone
set_option linter.unusedVariables false
set_option linter.unusedSimpArgs false

def registrarlaw10_shown.f  : Option (Bool) := (batch_PutG.f 5 (([(⟨(⟨#[115]⟩ : ByteArray), (⟨#[116]⟩ : ByteArray), ([] : List ByteArray), ([] : List (S50))⟩ : S40)] : List (S40)))).bind fun bt152 => (if (strOfNums bt152.1).toList = ([10, 2, 2, 115, 2, 116, 0, 0] : List UInt8) then (some (bt152.2 == 0)) else (some false))
set_option maxHeartbeats 8000000 in
set_option maxRecDepth 100000 in
theorem registrarlaw10_shown.calls  (r : Bool) (w : World) (h : registrarlaw10_shown.f  = some r) :
    Calls Try.prog 9 #[] w fun e w' => e = .returned (.bool r) ∧ Below w.heap.size w w' := by
  have hu40 := Try.underlying40
  have hu24 := Try.underlying24
  have HB := Aside0.mk (Below.refl w.heap.size w)
  have H : ((batch_PutG.f 5 (([(⟨(⟨#[115]⟩ : ByteArray), (⟨#[116]⟩ : ByteArray), ([] : List ByteArray), ([] : List (S50))⟩ : S40)] : List (S40)))).bind fun bt152 => (if (strOfNums bt152.1).toList = ([10, 2, 2, 115, 2, 116, 0, 0] : List UInt8) then (some (bt152.2 == 0)) else (some false))) = some r := h
  clear h
  obtain ⟨y149, hy149⟩ : ∃ y_ : List (S40), y_ = (([(⟨(⟨#[115]⟩ : ByteArray), (⟨#[116]⟩ : ByteArray), ([] : List ByteArray), ([] : List (S50))⟩ : S40)] : List (S40))) := ⟨_, rfl⟩
  replace H : ((batch_PutG.f 5 y149).bind fun bt152 => (if (strOfNums bt152.1).toList = ([10, 2, 2, 115, 2, 116, 0, 0] : List UInt8) then (some (bt152.2 == 0)) else (some false))) = some r := by first | (rw [hy149]; with_reducible exact H) | (have H2_ := (Option.bind_some _ _).symm.trans H; rw [hy149]; with_reducible exact H2_) | (have H2_ := (Option.bind_some _ _).symm.trans H; with_reducible exact H2_) | with_reducible exact H | (rw [hy149]; exact H) | exact H
  have Ny149 := Aside0.mk hy149
  clear hy149
  replace H := Option.bind_eq_some_iff.mp H
  obtain ⟨⟨t152, t155⟩, A10, H⟩ := H
  replace H : (if (strOfNums t152).toList = ([10, 2, 2, 115, 2, 116, 0, 0] : List UInt8) then (some (t155 == 0)) else (some false)) = some r := H
  have A1 := Aside0.mk A10
  clear A10
  by_cases c2 : (strOfNums t152).toList = ([10, 2, 2, 115, 2, 116, 0, 0] : List UInt8)
  · rw [if_pos c2] at H
    have c2b0 : ((strOfNums t152).toList == ([10, 2, 2, 115, 2, 116, 0, 0] : List UInt8)) = true := beq_iff_eq.mpr c2
    have c2b1 : ((strOfNums t152).toList != ([10, 2, 2, 115, 2, 116, 0, 0] : List UInt8)) = false := bne_eq_false_iff_eq.mpr c2
    clear c2
    obtain rfl := Option.some.inj H
    go_enter Try.func9, Try.ntmps9
    go_wp2_with (first | ((with_reducible refine gate_dst (N := 5) rfl ?_); refine Kd.S_lit k40 _ 40 ?hg (N := 5) ?hd (xs := ([(⟨(⟨#[115]⟩ : ByteArray), (⟨#[116]⟩ : ByteArray), ([] : List ByteArray), ([] : List (S50))⟩ : S40)] : List (S40))) (inner := [.string (⟨#[115]⟩ : ByteArray), .string (⟨#[116]⟩ : ByteArray), .slice none 0 0, .slice none 0 0]) (ok := fun _ => True) (okp := fun _ => True) ?hr ?hp (fun _ hk => hk) trivial (Below.refl _ _) (Nat.le_refl _) (by simp) ?_; (case hd => rfl); (case hg => rfl); (case hr => first | (go_simp; done) | (go_simp; rfl)); (case hp => exact (Reps.c4 (show Kd.M k40 _ _ _ (⟨(⟨#[115]⟩ : ByteArray), (⟨#[116]⟩ : ByteArray), ([] : List ByteArray), ([] : List (S50))⟩ : S40) [.string (⟨#[115]⟩ : ByteArray), .string (⟨#[116]⟩ : ByteArray), .slice none 0 0, .slice none 0 0] from (k40_mkM _ _ _ (⟨(⟨#[115]⟩ : ByteArray), (⟨#[116]⟩ : ByteArray), ([] : List ByteArray), ([] : List (S50))⟩ : S40) (Kd.R_nil _ _ _ _ _) (Kd.R_nil _ _ _ _ _))) (Reps.none _ _))); intro v150 w3 ho4 hb hg_ hnew_; clear hg_ hnew_; (first | rw [← Ny149.out] at ho4 | (simp only [Int.reduceToNat] at ho4; rw [← Ny149.out] at ho4)); have n0_ := Aside0.mk (Kd.S_lower ho4 (below_size (by repeat (first | (with_reducible first | exact HB.out | apply below_alloc | apply pw_below_drewN | apply below_drew1) | exact HB.out)))); have n1_ := Aside0.mk (below_step (by repeat (first | (with_reducible first | exact HB.out | apply below_alloc | apply pw_below_drewN | apply below_drew1) | exact HB.out)) hb); clear HB; have HO151 := n0_; have HB := n1_; clear n0_ n1_; clear hb ho4; obtain ⟨Ao5, co5, eo5⟩ := Kd.S_slice HO151.out; subst eo5) | ((with_reducible refine gate_callee (f := 11) rfl ?_); refine goesL_ (some 7) rfl rfl Try.func11 (by kernel_rfl) rfl #[.agg #[.int .i64 5, .slice Ao5 y149.length co5]] rfl (by (try simp only [List.map_toArray, List.map_cons, List.map_nil]); first | done | rfl | (simp only [List.length_drop, List.length_take]; rfl)) ?_; (with_reducible refine (batch_PutG.calls 5 _ _ y149 t152 t155 _ ?side1 ?side2 A1.out).mono ?_); (case side1 => repeat (first | exact (Kd.S_reads' HO151.out).2.2 | (with_reducible refine Kd.C_alloc ?_ _) | (with_reducible refine Kd.C_drewN ?_ _) | (with_reducible refine Kd.C_drew ?_))); (case side2 => exact (Kd.S_reads' HO151.out).2.1); rintro e w6 ⟨v153, rfl, ho0, hb⟩; refine ⟨_, rfl, ?_⟩; have n0_ := Aside0.mk (Kd.S_below (by (with_reducible repeat (first | apply Kd.S_alloc | apply Kd.S_drewN | apply Kd.S_drew)); exact HO151.out) hb); have n1_ := Aside0.mk (Kd.R_lower ho0 (below_size (by repeat (first | (with_reducible first | exact HB.out | apply below_alloc | apply pw_below_drewN | apply below_drew1) | exact HB.out)))); have n2_ := Aside0.mk (below_step (by repeat (first | (with_reducible first | exact HB.out | apply below_alloc | apply pw_below_drewN | apply below_drew1) | exact HB.out)) hb); clear HO151; clear HB; have HO151 := n0_; have HO154 := n1_; have HB := n2_; clear n0_ n1_ n2_; (try clear hb); (try clear hb2); (try clear hk); (try clear hi); (try clear ho0); have hcv7 := own_string (P := Try.prog) Try.underlying27 Try.underlying5 Try.underlying9 (Kd.own_of_R HO154.out)))
    go_ret
    exact ⟨by first | rfl | (simp [errW_none, errW_some] <;> rfl) | (simp [*, errW_none, errW_some] <;> rfl), by repeat (first | (with_reducible first | exact HB.out | apply below_alloc | apply pw_below_drewN | apply below_drew1) | exact HB.out)⟩
  · rw [if_neg c2] at H
    have c2b0 : ((strOfNums t152).toList == ([10, 2, 2, 115, 2, 116, 0, 0] : List UInt8)) = false := beq_eq_false_iff_ne.mpr c2
    have c2b1 : ((strOfNums t152).toList != ([10, 2, 2, 115, 2, 116, 0, 0] : List UInt8)) = true := bne_iff_ne.mpr c2
    obtain rfl := Option.some.inj H
    go_enter Try.func9, Try.ntmps9
    go_wp2_with (first | ((with_reducible refine gate_dst (N := 5) rfl ?_); refine Kd.S_lit k40 _ 40 ?hg (N := 5) ?hd (xs := ([(⟨(⟨#[115]⟩ : ByteArray), (⟨#[116]⟩ : ByteArray), ([] : List ByteArray), ([] : List (S50))⟩ : S40)] : List (S40))) (inner := [.string (⟨#[115]⟩ : ByteArray), .string (⟨#[116]⟩ : ByteArray), .slice none 0 0, .slice none 0 0]) (ok := fun _ => True) (okp := fun _ => True) ?hr ?hp (fun _ hk => hk) trivial (Below.refl _ _) (Nat.le_refl _) (by simp) ?_; (case hd => rfl); (case hg => rfl); (case hr => first | (go_simp; done) | (go_simp; rfl)); (case hp => exact (Reps.c4 (show Kd.M k40 _ _ _ (⟨(⟨#[115]⟩ : ByteArray), (⟨#[116]⟩ : ByteArray), ([] : List ByteArray), ([] : List (S50))⟩ : S40) [.string (⟨#[115]⟩ : ByteArray), .string (⟨#[116]⟩ : ByteArray), .slice none 0 0, .slice none 0 0] from (k40_mkM _ _ _ (⟨(⟨#[115]⟩ : ByteArray), (⟨#[116]⟩ : ByteArray), ([] : List ByteArray), ([] : List (S50))⟩ : S40) (Kd.R_nil _ _ _ _ _) (Kd.R_nil _ _ _ _ _))) (Reps.none _ _))); intro v150 w8 ho9 hb hg_ hnew_; clear hg_ hnew_; (first | rw [← Ny149.out] at ho9 | (simp only [Int.reduceToNat] at ho9; rw [← Ny149.out] at ho9)); have n0_ := Aside0.mk (Kd.S_lower ho9 (below_size (by repeat (first | (with_reducible first | exact HB.out | apply below_alloc | apply pw_below_drewN | apply below_drew1) | exact HB.out)))); have n1_ := Aside0.mk (below_step (by repeat (first | (with_reducible first | exact HB.out | apply below_alloc | apply pw_below_drewN | apply below_drew1) | exact HB.out)) hb); clear HB; have HO151 := n0_; have HB := n1_; clear n0_ n1_; clear hb ho9; obtain ⟨Ao10, co10, eo10⟩ := Kd.S_slice HO151.out; subst eo10) | ((with_reducible refine gate_callee (f := 11) rfl ?_); refine goesL_ (some 7) rfl rfl Try.func11 (by kernel_rfl) rfl #[.agg #[.int .i64 5, .slice Ao10 y149.length co10]] rfl (by (try simp only [List.map_toArray, List.map_cons, List.map_nil]); first | done | rfl | (simp only [List.length_drop, List.length_take]; rfl)) ?_; (with_reducible refine (batch_PutG.calls 5 _ _ y149 t152 t155 _ ?side1 ?side2 A1.out).mono ?_); (case side1 => repeat (first | exact (Kd.S_reads' HO151.out).2.2 | (with_reducible refine Kd.C_alloc ?_ _) | (with_reducible refine Kd.C_drewN ?_ _) | (with_reducible refine Kd.C_drew ?_))); (case side2 => exact (Kd.S_reads' HO151.out).2.1); rintro e w11 ⟨v153, rfl, ho0, hb⟩; refine ⟨_, rfl, ?_⟩; have n0_ := Aside0.mk (Kd.S_below (by (with_reducible repeat (first | apply Kd.S_alloc | apply Kd.S_drewN | apply Kd.S_drew)); exact HO151.out) hb); have n1_ := Aside0.mk (Kd.R_lower ho0 (below_size (by repeat (first | (with_reducible first | exact HB.out | apply below_alloc | apply pw_below_drewN | apply below_drew1) | exact HB.out)))); have n2_ := Aside0.mk (below_step (by repeat (first | (with_reducible first | exact HB.out | apply below_alloc | apply pw_below_drewN | apply below_drew1) | exact HB.out)) hb); clear HO151; clear HB; have HO151 := n0_; have HO154 := n1_; have HB := n2_; clear n0_ n1_ n2_; (try clear hb); (try clear hb2); (try clear hk); (try clear hi); (try clear ho0); have hcv12 := own_string (P := Try.prog) Try.underlying27 Try.underlying5 Try.underlying9 (Kd.own_of_R HO154.out)))
    go_ret
    exact ⟨by first | rfl | (simp [errW_none, errW_some] <;> rfl) | (simp [*, errW_none, errW_some] <;> rfl), by repeat (first | (with_reducible first | exact HB.out | apply below_alloc | apply pw_below_drewN | apply below_drew1) | exact HB.out)⟩

end Go.Proofs.Ytafeakcajhhkoaa.Prt

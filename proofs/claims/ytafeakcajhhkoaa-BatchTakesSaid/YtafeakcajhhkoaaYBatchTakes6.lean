/- Functions of the program, told as plain functions, with their walks: written by a program of this claim's out of the translation. The reference's batches as bytes: in closed form: Put. Batches: the document's example; what few answers; batches as bytes are told apart. The statements BatchPuts, BatchApart and BatchMany, of plain functions. Batches taken, of plain functions: what is taken is what was laid down. bytes.Equal, and batch.Take: their walks. The contract of batch.Take, in the form that the printed functions ask. What stands in memory while the reference takes an event. What the reference's Take finds is what Take finds: plain laws. registrarref05.Take walked. The reference's Take of a batch: its walk. The contract of the reference Take of batches, in the form that the printed functions ask. -/
import Derived.Test.YtafeakcajhhkoaaYBatchTakes1
import Derived.Test.YtafeakcajhhkoaaYBatchTakes2
import Derived.Test.YtafeakcajhhkoaaYBatchTakes3
import Derived.Test.YtafeakcajhhkoaaYBatchTakes4
import Derived.Test.YtafeakcajhhkoaaYBatchTakes5
namespace Go.Proofs.Ytafeakcajhhkoaa.Prt
open Go.RowKit Go.Proofs.YtafeakcajhhkoaaW.PrintWords Go.Proofs.YtafeakcajhhkoaaW.PrintLast Go.Proofs.YtafeakcajhhkoaaW.PrintMore
attribute [local go_sem] max2_int min2_int max_two min_two max_three min_three max_four min_four   -- for this text's walks alone
set_option linter.unusedVariables false
set_option linter.unusedSimpArgs false

def registrarref10_Put.l0 : Nat → List Int → Int → Int → List (S40) → Option (List Int × Int)
  | 0, _, _, _, _ => none
  | k + 1, x5, x6, x253000, x253001 => if x6 < (x253001.length : Int) then (if 0 ≤ x6 then ((registrarref05_PutG.f x5 ((rd_T40 x253001 x6).f0) ((rd_T40 x253001 x6).f1) ((rd_T40 x253001 x6).f2) ((rd_T40 x253001 x6).f3)).bind fun bt261 => (registrarref10_Put.l0 k bt261.1 (wrap64 (x6 + 1)) x253000 x253001)) else (none)) else (some (x5, 0))
def registrarref10_Put.f (k : Nat) (a0_0 : Int) (l0_1 : List (S40)) : Option (List Int × Int) := (registrarref10_MayG.f a0_0 l0_1).bind fun t253 => (if t253 = 0 then ((registrarref01_Put.f ([] : List Int) a0_0).bind fun t254 => ((registrarref01_Put.f t254 (l0_1.length : Int)).bind fun t257 => (registrarref10_Put.l0 k t257 0 a0_0 l0_1))) else (some (([] : List Int), t253)))
def registrarref10_Put.T4 : Bool × List (List Nat × List Nat) := (true, [([], []), ([0], [0]), ([1], [1]), ([], []), ([3], [3]), ([4], [4]), ([2, 5, 2], [2, 5]), ([6, 6, 0, 1, 2, 3, 4, 5, 6], [6])])
def registrarref10_Put.B4 : List Nat := [0, 1, 3, 0, 8, 24, 63, 127]
theorem registrarref10_Put.tab4 : rtab .any (opsOf Try.f12 4) = registrarref10_Put.T4 := by kernel_rfl
theorem registrarref10_Put.bits4 : waitsOk registrarref10_Put.T4.2 registrarref10_Put.B4 = true := by kernel_rfl
set_option maxHeartbeats 8000000 in
set_option maxRecDepth 100000 in
theorem registrarref10_Put.calls (k : Nat) (a0_0 : Int) (A0_1 : Option Addr) (c0_1 : Nat) (l0_1 : List (S40)) (r1 : List Int) (r2 : Int) (w : World) (hr0_1 : Kd.C k40 w A0_1 l0_1.length l0_1) (hc0_1 : l0_1.length ≤ c0_1) (h : registrarref10_Put.f k a0_0 l0_1 = some (r1, r2)) :
    Calls Try.prog 12 #[.agg #[.int .i64 a0_0, .slice A0_1 l0_1.length c0_1]] w fun e w' => ∃ v0_ : Value, e = .returned (.tuple #[v0_, .int .i64 r2]) ∧ Kd.R (Kd.int .u8) 5 w' w.heap.size (fun _ => True) v0_ r1 ∧ Below w.heap.size w w' := by
  have hu24 := Try.underlying24
  have hu40 := Try.underlying40
  have HR0_1 := Aside0.mk hr0_1
  have HC0_1 := Aside0.mk hc0_1
  clear hr0_1 hc0_1
  have HB := Aside0.mk (Below.refl w.heap.size w)
  have H : ((registrarref10_MayG.f a0_0 l0_1).bind fun t253 => (if t253 = 0 then ((registrarref01_Put.f ([] : List Int) a0_0).bind fun t254 => ((registrarref01_Put.f t254 (l0_1.length : Int)).bind fun t257 => (registrarref10_Put.l0 k t257 0 a0_0 l0_1))) else (some (([] : List Int), t253)))) = some (r1, r2) := h
  clear h
  replace H := Option.bind_eq_some_iff.mp H
  obtain ⟨t253, A20, H⟩ := H
  replace H : (if t253 = 0 then ((registrarref01_Put.f ([] : List Int) a0_0).bind fun t254 => ((registrarref01_Put.f t254 (l0_1.length : Int)).bind fun t257 => (registrarref10_Put.l0 k t257 0 a0_0 l0_1))) else (some (([] : List Int), t253))) = some (r1, r2) := H
  have A2 := Aside0.mk A20
  clear A20
  by_cases c3 : t253 = 0
  · rw [if_pos c3] at H
    have c3b0 : (t253 == 0) = true := beq_iff_eq.mpr c3
    have c3b1 : (t253 != 0) = false := bne_eq_false_iff_eq.mpr c3
    clear c3
    replace H := Option.bind_eq_some_iff.mp H
    obtain ⟨t254, A40, H⟩ := H
    replace H : ((registrarref01_Put.f t254 (l0_1.length : Int)).bind fun t257 => (registrarref10_Put.l0 k t257 0 a0_0 l0_1)) = some (r1, r2) := H
    have A4 := Aside0.mk A40
    clear A40
    replace H := Option.bind_eq_some_iff.mp H
    obtain ⟨t257, A50, H⟩ := H
    replace H : (registrarref10_Put.l0 k t257 0 a0_0 l0_1) = some (r1, r2) := H
    have A5 := Aside0.mk A50
    clear A50
    have H' := Aside0.mk H
    clear H
    go_enter Try.func12, Try.ntmps12
    try go_wp2_with (first | ((with_reducible refine gate_dst (N := 1) rfl ?_); refine box_event ?hg (N := 1) ?hd (cs := #[.int .i64 a0_0, .slice A0_1 l0_1.length c0_1]) (t := 24) ?hr ?_; (case hd => rfl); (case hg => rfl); (case hr => first | (go_simp; done) | (go_simp; rfl)); intro gb252 hg w6 hbox hb; have n0_ := Aside0.mk (below_step (by repeat (first | (with_reducible first | exact HB.out | apply below_alloc | apply pw_below_drewN | apply below_drew1) | exact HB.out)) hb); have n1_ := Aside0.mk (hbox); have n2_ := Aside0.mk ((by rw [hg]; exact (below_size (by repeat (first | (with_reducible first | exact HB.out | apply below_alloc | apply pw_below_drewN | apply below_drew1) | exact HB.out))) : w.heap.size ≤ gb252)); have n3_ := Aside0.mk ((by rw [hg]; exact (below_size (by repeat (first | (with_reducible first | exact HB.out | apply below_alloc | apply pw_below_drewN | apply below_drew1) | exact HB.out))) : w.heap.size ≤ gb252)); clear HB; have HB := n0_; have BK252 := n1_; have GW252 := n2_; have GE252 := n3_; clear n0_ n1_ n2_ n3_; clear hb hbox hg; have hcz7_0 : w6.cell? ⟨gb252, 0, none⟩ = some (.int .i64 a0_0) := (blk_cell BK252.out 0).trans rfl; have hcz7_1 : w6.cell? ⟨gb252, 1, none⟩ = some (.slice A0_1 l0_1.length c0_1) := (blk_cell BK252.out 1).trans rfl; have hfz7_0 := blk_frozen BK252.out 0; have hfz7_1 := blk_frozen BK252.out 1) | ((with_reducible refine gate_callee (f := 14) rfl ?_); refine goesL_ (some 8) rfl rfl Try.func14 (by kernel_rfl) rfl #[.agg #[.int .i64 a0_0, .slice A0_1 l0_1.length c0_1]] rfl (by (try simp only [List.map_toArray, List.map_cons, List.map_nil]); first | done | rfl | (simp only [List.length_drop, List.length_take]; rfl)) ?_; (with_reducible refine (registrarref10_MayG.calls a0_0 _ _ l0_1 t253 _ ?side1 ?side2 A2.out).mono ?_); (case side1 => repeat (first | exact (Kd.C_below HR0_1.out HB.out) | (with_reducible refine Kd.C_alloc ?_ _) | (with_reducible refine Kd.C_drewN ?_ _) | (with_reducible refine Kd.C_drew ?_))); (case side2 => exact HC0_1.out); rintro e w8 ⟨rfl, hb⟩; refine ⟨_, rfl, ?_⟩; have n0_ := Aside0.mk (blk_below (g := gb252) (o := .cells #[.int .i64 a0_0, .slice A0_1 l0_1.length c0_1] 24 (0, 0)) (by (with_reducible repeat (first | refine blk_drewN ?_ _ | refine blk_drew ?_ | refine blk_alloc ?_ _)); exact BK252.out) hb); have n1_ := Aside0.mk (below_step (by repeat (first | (with_reducible first | exact HB.out | apply below_alloc | apply pw_below_drewN | apply below_drew1 | refine below_set ?_ GE252.out) | exact HB.out)) hb); clear BK252; clear HB; have BK252 := n0_; have HB := n1_; clear n0_ n1_; (try clear hb); (try clear hb2); (try clear hk); (try clear hi)))
    have n0_ := Aside0.mk (blk_drew BK252.out)
    have n1_ := Aside0.mk (below_drew1 HB.out)
    clear BK252
    clear HB
    have BK252 := n0_
    have HB := n1_
    clear n0_ n1_
    refine start_ (n := 8) (S := fun w' => w'.cell? ⟨gb252, 0, none⟩ = some (.int .i64 a0_0) ∧ w'.cell? ⟨gb252, 1, none⟩ = some (.slice A0_1 l0_1.length c0_1)) (ds := []) #[false, false, false, false, false, false, false, false] (by kernel_rfl) rfl rfl ⟨(blk_cell BK252.out 0).trans rfl, (blk_cell BK252.out 1).trans rfl⟩ (fun hHeld => ?_); refine with_tabW registrarref10_Put.tab4 registrarref10_Put.bits4 (fun HT_ HW_ => ?_)
    generalize w8.drew = w9 at BK252 HB hHeld ⊢
    refine pure_ (i := 0) (N := some 12) (v := ?_) (a' := ?_) #[true, false, false, false, false, false, false, false] rfl rfl (any_of HT_.out (by kernel_rfl)) (fun _ _ _ h => h) (Or.inl ⟨by rfl, ?_⟩) ?_ ?_
    rotate_left
    · intro w'
      go_simp
      with_reducible rfl
    rotate_left
    · simp only [Act.put, List.setIfInBounds_toArray, List.set_cons_zero, List.set_cons_succ, i64_w, i32_w]
      rfl
    refine pure_ (i := 3) (N := some 15) (v := ?_) (a' := ?_) #[true, false, false, true, false, false, false, false] rfl rfl (any_of HT_.out (by kernel_rfl)) (fun _ _ _ h => h) (Or.inl ⟨by rfl, ?_⟩) ?_ ?_
    rotate_left
    · intro w'
      go_simp
      with_reducible rfl
    rotate_left
    · simp only [Act.put, List.setIfInBounds_toArray, List.set_cons_zero, List.set_cons_succ, i64_w, i32_w]
      rfl
    refine take_ (i := 1) (N := some 13) (v := ?_) (a' := ?_) #[true, true, false, true, false, false, false, false] rfl rfl (take_ofW HT_.out HW_.out (by kernel_rfl)) (fun _ _ _ h => h) (Or.inl ⟨by rfl, ?_⟩) hHeld ?_ ?_
    rotate_left
    · rintro w' ⟨s0, s1⟩
      go_simp
      with_reducible rfl
    rotate_left
    · simp only [Act.put, List.setIfInBounds_toArray, List.set_cons_zero, List.set_cons_succ, i64_w, i32_w]
      rfl
    refine take_ (i := 4) (N := some 16) (v := ?_) (a' := ?_) #[true, true, false, true, true, false, false, false] rfl rfl (take_ofW HT_.out HW_.out (by kernel_rfl)) (fun _ _ _ h => h) (Or.inl ⟨by rfl, ?_⟩) hHeld ?_ ?_
    rotate_left
    · rintro w' ⟨s0, s1⟩
      go_simp
      with_reducible rfl
    rotate_left
    · simp only [Act.put, List.setIfInBounds_toArray, List.set_cons_zero, List.set_cons_succ, i64_w, i32_w]
      rfl
    refine pure_ (i := 5) (N := some 17) (v := ?_) (a' := ?_) #[true, true, false, true, true, true, false, false] rfl rfl (any_of HT_.out (by kernel_rfl)) (fun _ _ _ h => h) (Or.inl ⟨by rfl, ?_⟩) ?_ ?_
    rotate_left
    · intro w'
      go_simp
      with_reducible rfl
    rotate_left
    · simp only [Act.put, List.setIfInBounds_toArray, List.set_cons_zero, List.set_cons_succ, i64_w, i32_w]
      rfl
    refine one_ (i := 2) (N := some 14) #[true, true, true, true, true, true, false, false] rfl rfl (one_of HT_.out (by kernel_rfl)) (by decide) (fun K hK => ?_)
    refine goes_ Try.func16 (by kernel_rfl) rfl #[.slice none 0 0, .int .i64 a0_0] (by rfl) rfl rfl (by (try simp only [List.map_toArray, List.map_cons, List.map_nil]); first | done | rfl | (simp only [List.length_drop, List.length_take]; rfl)) ?_
    refine (registrarref01_Put.calls _ _ ([] : List Int) a0_0 t254 _ ?side1 ?side2 A4.out).mono ?_
    (case side1 => exact Kd.C_nil _ _)
    (case side2 => exact Nat.le_refl _)
    rintro e w10 ⟨v255, rfl, ho0, hb⟩
    refine ⟨_, rfl, ?_⟩
    have n0_ := Aside0.mk (Kd.R_lower ho0 (below_size (by repeat (first | (with_reducible first | exact HB.out | apply below_alloc | apply pw_below_drewN | apply below_drew1 | refine below_set ?_ GE252.out) | exact HB.out))))
    have n1_ := Aside0.mk (blk_below (g := gb252) (o := .cells #[.int .i64 a0_0, .slice A0_1 l0_1.length c0_1] 24 (0, 0)) (by (with_reducible repeat (first | refine blk_drewN ?_ _ | refine blk_drew ?_ | refine blk_alloc ?_ _)); exact BK252.out) hb)
    have n2_ := Aside0.mk (below_step (by repeat (first | (with_reducible first | exact HB.out | apply below_alloc | apply pw_below_drewN | apply below_drew1 | refine below_set ?_ GE252.out) | exact HB.out)) hb)
    clear BK252
    clear HB
    have HO256 := n0_
    have BK252 := n1_
    have HB := n2_
    clear n0_ n1_ n2_
    (try clear hb)
    (try clear hb2)
    (try clear hk)
    (try clear hi)
    (try clear ho0)
    obtain ⟨Ao11, co11, eo11⟩ := Kd.R_slice HO256.out
    (first | subst eo11 | (injection eo11 with f1_ f2_ f3_; have f4_ := f1_.symm; have f5_ := f3_.symm; clear f1_ f2_ f3_; subst f4_; subst f5_))
    refine hK.out _ _ ⟨(blk_cell BK252.out 0).trans rfl, (blk_cell BK252.out 1).trans rfl⟩ (fun hHeld => ?_)
    clear hK K
    refine norm_ (a' := ?_) ?_ ?_
    rotate_left
    · show Act.put _ (some 14) _ = _
      simp only [Act.put, List.setIfInBounds_toArray, List.set_cons_zero, List.set_cons_succ, i64_w, i32_w]
      rfl
    refine one_ (i := 6) (N := some 18) #[true, true, true, true, true, true, true, false] rfl rfl (one_of HT_.out (by kernel_rfl)) (by decide) (fun K hK => ?_)
    refine goes_ Try.func16 (by kernel_rfl) rfl #[.slice Ao11 t254.length co11, .int .i64 (l0_1.length : Int)] (by rfl) rfl rfl (by (try simp only [List.map_toArray, List.map_cons, List.map_nil]); first | done | rfl | (simp only [List.length_drop, List.length_take]; rfl)) ?_
    with_reducible refine (registrarref01_Put.calls _ _ t254 (l0_1.length : Int) t257 _ ?side1 ?side2 A5.out).mono ?_
    (case side1 => repeat (first | exact (Kd.R_reads' HO256.out).2.2 | (with_reducible refine Kd.C_alloc ?_ _) | (with_reducible refine Kd.C_drewN ?_ _) | (with_reducible refine Kd.C_drew ?_)))
    (case side2 => exact (Kd.R_reads' HO256.out).2.1)
    rintro e w12 ⟨v258, rfl, ho0, hb⟩
    refine ⟨_, rfl, ?_⟩
    have n0_ := Aside0.mk (Kd.R_elder' (by (with_reducible repeat (first | apply Kd.R_alloc | apply Kd.R_drewN | apply Kd.R_drew)); exact HO256.out) (Kd.R_base ho0) hb)
    have n1_ := Aside0.mk (Kd.R_lower (Kd.R_new' ho0 (Kd.R_lt (by (with_reducible repeat (first | apply Kd.R_alloc | apply Kd.R_drewN | apply Kd.R_drew)); exact HO256.out))) (below_size (by repeat (first | (with_reducible first | exact HB.out | apply below_alloc | apply pw_below_drewN | apply below_drew1 | refine below_set ?_ GE252.out) | exact HB.out))))
    have n2_ := Aside0.mk (blk_below (g := gb252) (o := .cells #[.int .i64 a0_0, .slice A0_1 l0_1.length c0_1] 24 (0, 0)) (by (with_reducible repeat (first | refine blk_drewN ?_ _ | refine blk_drew ?_ | refine blk_alloc ?_ _)); exact BK252.out) hb)
    have n3_ := Aside0.mk (below_step (by repeat (first | (with_reducible first | exact HB.out | apply below_alloc | apply pw_below_drewN | apply below_drew1 | refine below_set ?_ GE252.out) | exact HB.out)) hb)
    clear HO256
    clear BK252
    clear HB
    have HO256 := n0_
    have HO259 := n1_
    have BK252 := n2_
    have HB := n3_
    clear n0_ n1_ n2_ n3_
    (try clear hb)
    (try clear hb2)
    (try clear hk)
    (try clear hi)
    (try clear ho0)
    refine hK.out _ _ ⟨(blk_cell BK252.out 0).trans rfl, (blk_cell BK252.out 1).trans rfl⟩ (fun hHeld => ?_)
    clear hK K
    refine norm_ (a' := ?_) ?_ ?_
    rotate_left
    · show Act.put _ (some 18) _ = _
      simp only [Act.put, List.setIfInBounds_toArray, List.set_cons_zero, List.set_cons_succ, i64_w, i32_w]
      rfl
    refine pure_ (i := 7) (N := some 5) (v := ?_) (a' := ?_) #[true, true, true, true, true, true, true, true] rfl rfl (any_of HT_.out (by kernel_rfl)) (fun _ _ _ h => h) (Or.inl ⟨by rfl, ?_⟩) ?_ ?_
    rotate_left
    · intro w'
      go_simp
      with_reducible rfl
    rotate_left
    · simp only [Act.put, List.setIfInBounds_toArray, List.set_cons_zero, List.set_cons_succ, i64_w, i32_w]
      rfl
    refine done_ (done_of HT_.out (by kernel_rfl)) ?_
    try go_wp2
    go_loopg [5, 6] k (fun kq v5 v6 w' => ∃ (x5_1 : List Int) (x6_1 : Int), v6 = .int .i64 x6_1 ∧ Aside0 (registrarref10_Put.l0 kq x5_1 x6_1 a0_0 l0_1 = some (r1, r2)) ∧ Aside0 (kq ≤ k) ∧ Aside0 (Kd.R (Kd.int .u8) 5 w' w.heap.size (fun _ => True) v5 x5_1) ∧ Aside0 (w'.heap[gb252]? = some (.cells #[.int .i64 a0_0, (.slice A0_1 l0_1.length c0_1)] 24 (0, 0))) ∧ Aside0 (Below w.heap.size w w'))
    case atStart => exact ⟨(t257), (0), (by first | rfl | (simp; done) | (simp [*]; done)), H', ⟨Nat.le_refl _⟩, ⟨by (with_reducible repeat (first | apply Kd.R_alloc | apply Kd.R_drewN | apply Kd.R_drew)); exact Kd.R_mono HO259.out (fun _ hk => trivial)⟩, ⟨by (with_reducible repeat (first | refine blk_drewN ?_ _ | refine blk_drew ?_ | refine blk_alloc ?_ _)); exact BK252.out⟩, ⟨by repeat (first | (with_reducible first | exact HB.out | apply below_alloc | apply pw_below_drewN | apply below_drew1 | refine below_set ?_ GE252.out) | exact HB.out)⟩⟩
    case round =>
      clear H'
      try clear c1
      try clear p2
      try clear c3
      try clear c3b0
      try clear c3b1
      try clear c12
      try clear hcz7_0
      try clear hcz7_1
      try clear hfz7_0
      try clear hfz7_1
      obtain ⟨x5_1, x6_1, rfl, HA, HK1, HO_5, BK252, HB⟩ := hrel
      cases gk with
      | zero => exact absurd HA.out (by simp [registrarref10_Put.l0])
      | succ k1 =>
        have H := HA.out
        clear HA
        simp only [registrarref10_Put.l0] at H
        by_cases c13 : x6_1 < (l0_1.length : Int)
        · rw [if_pos c13] at H
          have c13b0 : decide (x6_1 < (l0_1.length : Int)) = true := decide_eq_true c13
          clear c13
          by_cases c14 : 0 ≤ x6_1
          · rw [if_pos c14] at H
            have c14b0 : decide (0 ≤ x6_1) = true := decide_eq_true c14
            clear c14
            replace H := Option.bind_eq_some_iff.mp H
            obtain ⟨⟨t261, t264⟩, A150, H⟩ := H
            replace H : (registrarref10_Put.l0 k1 t261 (wrap64 (x6_1 + 1)) a0_0 l0_1) = some (r1, r2) := H
            have A15 := Aside0.mk A150
            clear A150
            have H' := Aside0.mk H
            clear H
            have hcz16_0 : wr.cell? ⟨gb252, 0, none⟩ = some (.int .i64 a0_0) := (blk_cell BK252.out 0).trans rfl
            have hcz16_1 : wr.cell? ⟨gb252, 1, none⟩ = some (.slice A0_1 l0_1.length c0_1) := (blk_cell BK252.out 1).trans rfl
            have hfz16_0 := blk_frozen BK252.out 0
            have hfz16_1 := blk_frozen BK252.out 1
            have p260 : 0 ≤ (x6_1 : Int) := of_decide_eq_true (by first | (with_reducible assumption) | assumption)
            have q260 : x6_1 < (l0_1.length : Int) := of_decide_eq_true (by first | (with_reducible assumption) | assumption)
            obtain ⟨ad260, A260_2, c260_2, A260_3, c260_3, e260, hx260_0, hx260_1, hx260_2, hx260_3, hl260_2, hi260_2, hl260_3, hi260_3⟩ := at_T40 HR0_1.out x6_1 p260 q260
            cases e260
            replace hx260_0 := (HB.out.cell (World.block_lt_of_cell? w _ hx260_0)).trans hx260_0
            replace hx260_1 := (HB.out.cell (World.block_lt_of_cell? w _ hx260_1)).trans hx260_1
            replace hx260_2 := (HB.out.cell (World.block_lt_of_cell? w _ hx260_2)).trans hx260_2
            replace hx260_3 := (HB.out.cell (World.block_lt_of_cell? w _ hx260_3)).trans hx260_3
            have HR260_2 := Aside0.mk hi260_2
            have HC260_2 := Aside0.mk hl260_2
            clear hi260_2 hl260_2
            have HR260_3 := Aside0.mk hi260_3
            have HC260_3 := Aside0.mk hl260_3
            clear hi260_3 hl260_3
            replace p260 := eq_true p260
            replace q260 := eq_true q260
            obtain ⟨Ao17, co17, eo17⟩ := Kd.R_slice HO_5.out
            subst eo17
            go_wp2_with (first | ((with_reducible refine gate_callee (f := 21) rfl ?_); refine goesL_ (some 33) rfl rfl Try.func21 (by kernel_rfl) rfl #[.slice Ao17 x5_1.length co17, .agg #[.string ((rd_T40 l0_1 x6_1).f0), .string ((rd_T40 l0_1 x6_1).f1), .slice A260_2 ((rd_T40 l0_1 x6_1).f2).length c260_2, .slice A260_3 ((rd_T40 l0_1 x6_1).f3).length c260_3]] rfl (by (try simp only [List.map_toArray, List.map_cons, List.map_nil]); first | done | rfl | (simp only [List.length_drop, List.length_take]; rfl)) ?_; (with_reducible refine (registrarref05_PutG.calls _ _ x5_1 ((rd_T40 l0_1 x6_1).f0) ((rd_T40 l0_1 x6_1).f1) _ _ ((rd_T40 l0_1 x6_1).f2) _ _ ((rd_T40 l0_1 x6_1).f3) t261 t264 _ ?side1 ?side2 ?side3 ?side4 ?side5 ?side6 A15.out).mono ?_); (case side1 => repeat (first | exact (Kd.R_reads' HO_5.out).2.2 | (with_reducible refine Kd.C_alloc ?_ _) | (with_reducible refine Kd.C_drewN ?_ _) | (with_reducible refine Kd.C_drew ?_))); (case side2 => exact (Kd.R_reads' HO_5.out).2.1); (case side3 => repeat (first | exact (Kd.C_below HR260_2.out HB.out) | (with_reducible refine Kd.C_alloc ?_ _) | (with_reducible refine Kd.C_drewN ?_ _) | (with_reducible refine Kd.C_drew ?_))); (case side4 => exact HC260_2.out); (case side5 => repeat (first | exact (Kd.C_below HR260_3.out HB.out) | (with_reducible refine Kd.C_alloc ?_ _) | (with_reducible refine Kd.C_drewN ?_ _) | (with_reducible refine Kd.C_drew ?_))); (case side6 => exact HC260_3.out); rintro e w18 ⟨v262, rfl, ho0, hb⟩; refine ⟨_, rfl, ?_⟩; have n0_ := Aside0.mk (Kd.R_elder' (by (with_reducible repeat (first | apply Kd.R_alloc | apply Kd.R_drewN | apply Kd.R_drew)); exact HO_5.out) (Kd.R_base ho0) hb); have n1_ := Aside0.mk (Kd.R_lower (Kd.R_new' ho0 (Kd.R_lt (by (with_reducible repeat (first | apply Kd.R_alloc | apply Kd.R_drewN | apply Kd.R_drew)); exact HO_5.out))) (below_size (by repeat (first | (with_reducible first | exact HB.out | apply below_alloc | apply pw_below_drewN | apply below_drew1 | refine below_set ?_ GE252.out) | exact HB.out)))); have n2_ := Aside0.mk (blk_below (g := gb252) (o := .cells #[.int .i64 a0_0, .slice (some ad260) l0_1.length c0_1] 24 (0, 0)) (by (with_reducible repeat (first | refine blk_drewN ?_ _ | refine blk_drew ?_ | refine blk_alloc ?_ _)); exact BK252.out) hb); have n3_ := Aside0.mk (below_step (by repeat (first | (with_reducible first | exact HB.out | apply below_alloc | apply pw_below_drewN | apply below_drew1 | refine below_set ?_ GE252.out) | exact HB.out)) hb); clear HO_5; clear BK252; clear HB; have HO_5 := n0_; have HO263 := n1_; have BK252 := n2_; have HB := n3_; clear n0_ n1_ n2_ n3_; (try clear hb); (try clear hb2); (try clear hk); (try clear hi); (try clear ho0)))
            go_roundg k1
            case measure => have := HK1.out; omega
            case rel => exact ⟨(t261), (wrap64 (x6_1 + 1)), (by first | rfl | (simp; done) | (simp [*]; done)), H', ⟨by have := HK1.out; omega⟩, ⟨by (with_reducible repeat (first | apply Kd.R_alloc | apply Kd.R_drewN | apply Kd.R_drew)); exact Kd.R_mono HO263.out (fun _ hk => trivial)⟩, ⟨by (with_reducible repeat (first | refine blk_drewN ?_ _ | refine blk_drew ?_ | refine blk_alloc ?_ _)); exact BK252.out⟩, ⟨by repeat (first | (with_reducible first | exact HB.out | apply below_alloc | apply pw_below_drewN | apply below_drew1 | refine below_set ?_ GE252.out) | exact HB.out)⟩⟩
          · rw [if_neg c14] at H
            exact absurd H (by simp)
        · rw [if_neg c13] at H
          have c13b0 : decide (x6_1 < (l0_1.length : Int)) = false := decide_eq_false c13
          clear c13
          simp only [Option.some.injEq, Prod.mk.injEq] at H
          obtain ⟨rfl, rfl⟩ := H
          have hcz19_0 : wr.cell? ⟨gb252, 0, none⟩ = some (.int .i64 a0_0) := (blk_cell BK252.out 0).trans rfl
          have hcz19_1 : wr.cell? ⟨gb252, 1, none⟩ = some (.slice A0_1 l0_1.length c0_1) := (blk_cell BK252.out 1).trans rfl
          have hfz19_0 := blk_frozen BK252.out 0
          have hfz19_1 := blk_frozen BK252.out 1
          go_wp2
          go_ret2
          exact ⟨_, by first | rfl | (simp [errW_none, errW_some] <;> rfl) | (simp [*, errW_none, errW_some] <;> rfl), by (with_reducible repeat (first | apply Kd.R_alloc | apply Kd.R_drewN | apply Kd.R_drew)); exact HO_5.out, by repeat (first | (with_reducible first | exact HB.out | apply below_alloc | apply pw_below_drewN | apply below_drew1 | refine below_set ?_ GE252.out) | exact HB.out)⟩
  · rw [if_neg c3] at H
    have c3b0 : (t253 == 0) = false := beq_eq_false_iff_ne.mpr c3
    have c3b1 : (t253 != 0) = true := bne_iff_ne.mpr c3
    simp only [Option.some.injEq, Prod.mk.injEq] at H
    obtain ⟨rfl, rfl⟩ := H
    go_enter Try.func12, Try.ntmps12
    go_wp2_with (first | ((with_reducible refine gate_dst (N := 1) rfl ?_); refine box_event ?hg (N := 1) ?hd (cs := #[.int .i64 a0_0, .slice A0_1 l0_1.length c0_1]) (t := 24) ?hr ?_; (case hd => rfl); (case hg => rfl); (case hr => first | (go_simp; done) | (go_simp; rfl)); intro gb252 hg w20 hbox hb; have n0_ := Aside0.mk (below_step (by repeat (first | (with_reducible first | exact HB.out | apply below_alloc | apply pw_below_drewN | apply below_drew1) | exact HB.out)) hb); have n1_ := Aside0.mk (hbox); have n2_ := Aside0.mk ((by rw [hg]; exact (below_size (by repeat (first | (with_reducible first | exact HB.out | apply below_alloc | apply pw_below_drewN | apply below_drew1) | exact HB.out))) : w.heap.size ≤ gb252)); have n3_ := Aside0.mk ((by rw [hg]; exact (below_size (by repeat (first | (with_reducible first | exact HB.out | apply below_alloc | apply pw_below_drewN | apply below_drew1) | exact HB.out))) : w.heap.size ≤ gb252)); clear HB; have HB := n0_; have BK252 := n1_; have GW252 := n2_; have GE252 := n3_; clear n0_ n1_ n2_ n3_; clear hb hbox hg; have hcz21_0 : w20.cell? ⟨gb252, 0, none⟩ = some (.int .i64 a0_0) := (blk_cell BK252.out 0).trans rfl; have hcz21_1 : w20.cell? ⟨gb252, 1, none⟩ = some (.slice A0_1 l0_1.length c0_1) := (blk_cell BK252.out 1).trans rfl; have hfz21_0 := blk_frozen BK252.out 0; have hfz21_1 := blk_frozen BK252.out 1) | ((with_reducible refine gate_callee (f := 14) rfl ?_); refine goesL_ (some 8) rfl rfl Try.func14 (by kernel_rfl) rfl #[.agg #[.int .i64 a0_0, .slice A0_1 l0_1.length c0_1]] rfl (by (try simp only [List.map_toArray, List.map_cons, List.map_nil]); first | done | rfl | (simp only [List.length_drop, List.length_take]; rfl)) ?_; (with_reducible refine (registrarref10_MayG.calls a0_0 _ _ l0_1 t253 _ ?side1 ?side2 A2.out).mono ?_); (case side1 => repeat (first | exact (Kd.C_below HR0_1.out HB.out) | (with_reducible refine Kd.C_alloc ?_ _) | (with_reducible refine Kd.C_drewN ?_ _) | (with_reducible refine Kd.C_drew ?_))); (case side2 => exact HC0_1.out); rintro e w22 ⟨rfl, hb⟩; refine ⟨_, rfl, ?_⟩; have n0_ := Aside0.mk (blk_below (g := gb252) (o := .cells #[.int .i64 a0_0, .slice A0_1 l0_1.length c0_1] 24 (0, 0)) (by (with_reducible repeat (first | refine blk_drewN ?_ _ | refine blk_drew ?_ | refine blk_alloc ?_ _)); exact BK252.out) hb); have n1_ := Aside0.mk (below_step (by repeat (first | (with_reducible first | exact HB.out | apply below_alloc | apply pw_below_drewN | apply below_drew1 | refine below_set ?_ GE252.out) | exact HB.out)) hb); clear BK252; clear HB; have BK252 := n0_; have HB := n1_; clear n0_ n1_; (try clear hb); (try clear hb2); (try clear hk); (try clear hi)))
    go_ret2
    exact ⟨_, by first | rfl | (simp [errW_none, errW_some] <;> rfl) | (simp [*, errW_none, errW_some] <;> rfl), by first | exact Kd.R_nil _ _ _ _ _ | exact Kd.N_nil _ _ _ _ _ | exact Kd.V_nil _ _ _ _ _ | exact Kd.Q_nil _ _ _ _ _ | exact Kd.S_nil _ _ _ _ _, by repeat (first | (with_reducible first | exact HB.out | apply below_alloc | apply pw_below_drewN | apply below_drew1 | refine below_set ?_ GE252.out) | exact HB.out)⟩

end Go.Proofs.Ytafeakcajhhkoaa.Prt
namespace Go.Proofs.Ytafeakcajhhkoaa.Prt
open Go.RowKit Go.Proofs.YtafeakcajhhkoaaW.PrintWords Go.Proofs.YtafeakcajhhkoaaW.PrintLast Go.Proofs.YtafeakcajhhkoaaW.PrintMore Go.Proofs.Ytafeakcajhhkoaa.Num Go.Proofs.Ytafeakcajhhkoaa.Nam
set_option linter.unusedVariables false
set_option linter.unusedSimpArgs false

theorem refPut10_loop (a : Int) (l : List S40) (hl : l.length ≤ 16) (ho : ∀ x ∈ l, OkX x) : ∀ (n i k : Nat) (x : List Int), i + n = l.length → n < k → x.length ≤ 100 + 700 * i → registrarref10_Put.l0 k x (i : Int) a l = some (x ++ encEs (l.drop i), 0) := by
  intro n
  induction n with
  | zero =>
    intro i k x hi hk hx
    obtain ⟨k, rfl⟩ : ∃ m, k = m + 1 := ⟨k - 1, by omega⟩
    rw [registrarref10_Put.l0, if_neg (by omega), List.drop_eq_nil_of_le (by omega)]
    simp [encEs]
  | succ n ih =>
    intro i k x hi hk hx
    obtain ⟨k, rfl⟩ : ∃ m, k = m + 1 := ⟨k - 1, by omega⟩
    have hm := ho _ (rdE_mem (l := l) (i := i) (by omega))
    have hz := encX_size hm
    rw [registrarref10_Put.l0, if_pos (by omega), if_pos (by omega), refPutG_okX (by omega) hm, drop_rdE l i (by omega), encEs_cons]
    simp only [Option.bind_some]
    rw [succW i (by omega), ih (i + 1) k _ (by omega) (by omega) (by rw [List.length_append]; omega), List.append_assoc]
def registrarref10_PutG.f (a0_0 : Int) (l0_1 : List (S40)) : Option (List Int × Int) := if l0_1.all fitX2 = true then some (if mayB a0_0 l0_1 = 0 then (encB a0_0 l0_1, 0) else ([], mayB a0_0 l0_1)) else none
theorem registrarref10_PutG.val {a0_0 : Int} {l0_1 : List (S40)} {r1 : List Int} {r2 : Int} (h : registrarref10_PutG.f a0_0 l0_1 = some (r1, r2)) : ∃ k, registrarref10_Put.f k a0_0 l0_1 = some (r1, r2) := by
  unfold registrarref10_PutG.f at h
  by_cases hc : l0_1.all fitX2 = true
  · rw [if_pos hc] at h
    rw [← h]
    refine ⟨17, ?_⟩
    have m1 : registrarref10_MayG.f a0_0 l0_1 = some (mayB a0_0 l0_1) := if_pos hc
    unfold registrarref10_Put.f
    rw [m1]
    simp only [Option.bind_some]
    by_cases h0 : mayB a0_0 l0_1 = 0
    · obtain ⟨h1, h2, h3, h4, h5⟩ := mayB_zero.1 h0
      have e1 := enc_len (x := a0_0) ⟨by omega, by omega⟩
      have e2 := enc_len (x := (l0_1.length : Int)) ⟨by omega, by omega⟩
      have m2 : registrarref01_Put.f [] a0_0 = some ([] ++ enc a0_0) := if_pos ⟨by simp, by omega, by omega⟩
      have m3 : registrarref01_Put.f (enc a0_0) (l0_1.length : Int) = some (enc a0_0 ++ enc (l0_1.length : Int)) := if_pos ⟨by omega, by omega, by omega⟩
      rw [if_pos h0, if_pos h0, m2]
      simp only [Option.bind_some, List.nil_append]
      rw [m3]
      simp only [Option.bind_some]
      have := refPut10_loop a0_0 l0_1 h2 h3 l0_1.length 0 17 (enc a0_0 ++ enc (l0_1.length : Int)) (by omega) (by omega) (by rw [List.length_append]; omega)
      rw [List.drop_zero, List.append_assoc] at this
      exact this
    · rw [if_neg h0, if_neg h0]
  · rw [if_neg hc] at h; cases h
theorem registrarref10_PutG.calls (a0_0 : Int) (A0_1 : Option Addr) (c0_1 : Nat) (l0_1 : List (S40)) (r1 : List Int) (r2 : Int) (w : World) (hr0_1 : Kd.C k40 w A0_1 l0_1.length l0_1) (hc0_1 : l0_1.length ≤ c0_1) (h : registrarref10_PutG.f a0_0 l0_1 = some (r1, r2)) :
    Calls Try.prog 12 #[.agg #[.int .i64 a0_0, .slice A0_1 l0_1.length c0_1]] w fun e w' => ∃ v0_ : Value, e = .returned (.tuple #[v0_, .int .i64 r2]) ∧ Kd.R (Kd.int .u8) 5 w' w.heap.size (fun _ => True) v0_ r1 ∧ Below w.heap.size w w' := by
  obtain ⟨k, hk⟩ := registrarref10_PutG.val h
  exact registrarref10_Put.calls k a0_0 A0_1 c0_1 l0_1 r1 r2 w hr0_1 hc0_1 hk
end Go.Proofs.Ytafeakcajhhkoaa.Prt
namespace Go.Proofs.Ytafeakcajhhkoaa.Prt
open Go.RowKit Go.Proofs.YtafeakcajhhkoaaW.PrintWords Go.Proofs.YtafeakcajhhkoaaW.PrintLast Go.Proofs.YtafeakcajhhkoaaW.PrintMore
attribute [local go_sem] max2_int min2_int max_two min_two max_three min_three max_four min_four   -- for this text's walks alone
set_option linter.unusedVariables false
set_option linter.unusedSimpArgs false

def registrarlaw10_shown.f  : Option (Bool) := (batch_PutG.f 5 (([(⟨(⟨#[115]⟩ : ByteArray), (⟨#[116]⟩ : ByteArray), ([] : List ByteArray), ([] : List (S50))⟩ : S40)] : List (S40)))).bind fun bt152 => (if (strOfNums bt152.1).toList = ([10, 2, 2, 115, 2, 116, 0, 0] : List UInt8) then (some (bt152.2 == 0)) else (some false))
set_option maxHeartbeats 8000000 in
set_option maxRecDepth 100000 in
theorem registrarlaw10_shown.calls  (r : Bool) (w : World) (h : registrarlaw10_shown.f  = some r) :
    Calls Try.prog 9 #[] w fun e w' => e = .returned (.bool r) ∧ Below w.heap.size w w' := by
  have hu40 := Try.underlying40
  have hu24 := Try.underlying24
  have HB := Aside0.mk (Below.refl w.heap.size w)
  have H : ((batch_PutG.f 5 (([(⟨(⟨#[115]⟩ : ByteArray), (⟨#[116]⟩ : ByteArray), ([] : List ByteArray), ([] : List (S50))⟩ : S40)] : List (S40)))).bind fun bt152 => (if (strOfNums bt152.1).toList = ([10, 2, 2, 115, 2, 116, 0, 0] : List UInt8) then (some (bt152.2 == 0)) else (some false))) = some r := h
  clear h
  obtain ⟨y149, hy149⟩ : ∃ y_ : List (S40), y_ = (([(⟨(⟨#[115]⟩ : ByteArray), (⟨#[116]⟩ : ByteArray), ([] : List ByteArray), ([] : List (S50))⟩ : S40)] : List (S40))) := ⟨_, rfl⟩
  replace H : ((batch_PutG.f 5 y149).bind fun bt152 => (if (strOfNums bt152.1).toList = ([10, 2, 2, 115, 2, 116, 0, 0] : List UInt8) then (some (bt152.2 == 0)) else (some false))) = some r := by first | (rw [hy149]; with_reducible exact H) | (have H2_ := (Option.bind_some _ _).symm.trans H; rw [hy149]; with_reducible exact H2_) | (have H2_ := (Option.bind_some _ _).symm.trans H; with_reducible exact H2_) | with_reducible exact H | (rw [hy149]; exact H) | exact H
  have Ny149 := Aside0.mk hy149
  clear hy149
  replace H := Option.bind_eq_some_iff.mp H
  obtain ⟨⟨t152, t155⟩, A10, H⟩ := H
  replace H : (if (strOfNums t152).toList = ([10, 2, 2, 115, 2, 116, 0, 0] : List UInt8) then (some (t155 == 0)) else (some false)) = some r := H
  have A1 := Aside0.mk A10
  clear A10
  by_cases c2 : (strOfNums t152).toList = ([10, 2, 2, 115, 2, 116, 0, 0] : List UInt8)
  · rw [if_pos c2] at H
    have c2b0 : ((strOfNums t152).toList == ([10, 2, 2, 115, 2, 116, 0, 0] : List UInt8)) = true := beq_iff_eq.mpr c2
    have c2b1 : ((strOfNums t152).toList != ([10, 2, 2, 115, 2, 116, 0, 0] : List UInt8)) = false := bne_eq_false_iff_eq.mpr c2
    clear c2
    obtain rfl := Option.some.inj H
    go_enter Try.func9, Try.ntmps9
    go_wp2_with (first | ((with_reducible refine gate_dst (N := 5) rfl ?_); refine Kd.S_lit k40 _ 40 ?hg (N := 5) ?hd (xs := ([(⟨(⟨#[115]⟩ : ByteArray), (⟨#[116]⟩ : ByteArray), ([] : List ByteArray), ([] : List (S50))⟩ : S40)] : List (S40))) (inner := [.string (⟨#[115]⟩ : ByteArray), .string (⟨#[116]⟩ : ByteArray), .slice none 0 0, .slice none 0 0]) (ok := fun _ => True) (okp := fun _ => True) ?hr ?hp (fun _ hk => hk) trivial (Below.refl _ _) (Nat.le_refl _) (by simp) ?_; (case hd => rfl); (case hg => rfl); (case hr => first | (go_simp; done) | (go_simp; rfl)); (case hp => exact (Reps.c4 (show Kd.M k40 _ _ _ (⟨(⟨#[115]⟩ : ByteArray), (⟨#[116]⟩ : ByteArray), ([] : List ByteArray), ([] : List (S50))⟩ : S40) [.string (⟨#[115]⟩ : ByteArray), .string (⟨#[116]⟩ : ByteArray), .slice none 0 0, .slice none 0 0] from (k40_mkM _ _ _ (⟨(⟨#[115]⟩ : ByteArray), (⟨#[116]⟩ : ByteArray), ([] : List ByteArray), ([] : List (S50))⟩ : S40) (Kd.R_nil _ _ _ _ _) (Kd.R_nil _ _ _ _ _))) (Reps.none _ _))); intro v150 w3 ho4 hb hg_ hnew_; clear hg_ hnew_; (first | rw [← Ny149.out] at ho4 | (simp only [Int.reduceToNat] at ho4; rw [← Ny149.out] at ho4)); have n0_ := Aside0.mk (Kd.S_lower ho4 (below_size (by repeat (first | (with_reducible first | exact HB.out | apply below_alloc | apply pw_below_drewN | apply below_drew1) | exact HB.out)))); have n1_ := Aside0.mk (below_step (by repeat (first | (with_reducible first | exact HB.out | apply below_alloc | apply pw_below_drewN | apply below_drew1) | exact HB.out)) hb); clear HB; have HO151 := n0_; have HB := n1_; clear n0_ n1_; clear hb ho4; obtain ⟨Ao5, co5, eo5⟩ := Kd.S_slice HO151.out; subst eo5) | ((with_reducible refine gate_callee (f := 11) rfl ?_); refine goesL_ (some 7) rfl rfl Try.func11 (by kernel_rfl) rfl #[.agg #[.int .i64 5, .slice Ao5 y149.length co5]] rfl (by (try simp only [List.map_toArray, List.map_cons, List.map_nil]); first | done | rfl | (simp only [List.length_drop, List.length_take]; rfl)) ?_; (with_reducible refine (batch_PutG.calls 5 _ _ y149 t152 t155 _ ?side1 ?side2 A1.out).mono ?_); (case side1 => repeat (first | exact (Kd.S_reads' HO151.out).2.2 | (with_reducible refine Kd.C_alloc ?_ _) | (with_reducible refine Kd.C_drewN ?_ _) | (with_reducible refine Kd.C_drew ?_))); (case side2 => exact (Kd.S_reads' HO151.out).2.1); rintro e w6 ⟨v153, rfl, ho0, hb⟩; refine ⟨_, rfl, ?_⟩; have n0_ := Aside0.mk (Kd.S_below (by (with_reducible repeat (first | apply Kd.S_alloc | apply Kd.S_drewN | apply Kd.S_drew)); exact HO151.out) hb); have n1_ := Aside0.mk (Kd.R_lower ho0 (below_size (by repeat (first | (with_reducible first | exact HB.out | apply below_alloc | apply pw_below_drewN | apply below_drew1) | exact HB.out)))); have n2_ := Aside0.mk (below_step (by repeat (first | (with_reducible first | exact HB.out | apply below_alloc | apply pw_below_drewN | apply below_drew1) | exact HB.out)) hb); clear HO151; clear HB; have HO151 := n0_; have HO154 := n1_; have HB := n2_; clear n0_ n1_ n2_; (try clear hb); (try clear hb2); (try clear hk); (try clear hi); (try clear ho0); have hcv7 := own_string (P := Try.prog) Try.underlying27 Try.underlying5 Try.underlying9 (Kd.own_of_R HO154.out)))
    go_ret
    exact ⟨by first | rfl | (simp [errW_none, errW_some] <;> rfl) | (simp [*, errW_none, errW_some] <;> rfl), by repeat (first | (with_reducible first | exact HB.out | apply below_alloc | apply pw_below_drewN | apply below_drew1) | exact HB.out)⟩
  · rw [if_neg c2] at H
    have c2b0 : ((strOfNums t152).toList == ([10, 2, 2, 115, 2, 116, 0, 0] : List UInt8)) = false := beq_eq_false_iff_ne.mpr c2
    have c2b1 : ((strOfNums t152).toList != ([10, 2, 2, 115, 2, 116, 0, 0] : List UInt8)) = true := bne_iff_ne.mpr c2
    obtain rfl := Option.some.inj H
    go_enter Try.func9, Try.ntmps9
    go_wp2_with (first | ((with_reducible refine gate_dst (N := 5) rfl ?_); refine Kd.S_lit k40 _ 40 ?hg (N := 5) ?hd (xs := ([(⟨(⟨#[115]⟩ : ByteArray), (⟨#[116]⟩ : ByteArray), ([] : List ByteArray), ([] : List (S50))⟩ : S40)] : List (S40))) (inner := [.string (⟨#[115]⟩ : ByteArray), .string (⟨#[116]⟩ : ByteArray), .slice none 0 0, .slice none 0 0]) (ok := fun _ => True) (okp := fun _ => True) ?hr ?hp (fun _ hk => hk) trivial (Below.refl _ _) (Nat.le_refl _) (by simp) ?_; (case hd => rfl); (case hg => rfl); (case hr => first | (go_simp; done) | (go_simp; rfl)); (case hp => exact (Reps.c4 (show Kd.M k40 _ _ _ (⟨(⟨#[115]⟩ : ByteArray), (⟨#[116]⟩ : ByteArray), ([] : List ByteArray), ([] : List (S50))⟩ : S40) [.string (⟨#[115]⟩ : ByteArray), .string (⟨#[116]⟩ : ByteArray), .slice none 0 0, .slice none 0 0] from (k40_mkM _ _ _ (⟨(⟨#[115]⟩ : ByteArray), (⟨#[116]⟩ : ByteArray), ([] : List ByteArray), ([] : List (S50))⟩ : S40) (Kd.R_nil _ _ _ _ _) (Kd.R_nil _ _ _ _ _))) (Reps.none _ _))); intro v150 w8 ho9 hb hg_ hnew_; clear hg_ hnew_; (first | rw [← Ny149.out] at ho9 | (simp only [Int.reduceToNat] at ho9; rw [← Ny149.out] at ho9)); have n0_ := Aside0.mk (Kd.S_lower ho9 (below_size (by repeat (first | (with_reducible first | exact HB.out | apply below_alloc | apply pw_below_drewN | apply below_drew1) | exact HB.out)))); have n1_ := Aside0.mk (below_step (by repeat (first | (with_reducible first | exact HB.out | apply below_alloc | apply pw_below_drewN | apply below_drew1) | exact HB.out)) hb); clear HB; have HO151 := n0_; have HB := n1_; clear n0_ n1_; clear hb ho9; obtain ⟨Ao10, co10, eo10⟩ := Kd.S_slice HO151.out; subst eo10) | ((with_reducible refine gate_callee (f := 11) rfl ?_); refine goesL_ (some 7) rfl rfl Try.func11 (by kernel_rfl) rfl #[.agg #[.int .i64 5, .slice Ao10 y149.length co10]] rfl (by (try simp only [List.map_toArray, List.map_cons, List.map_nil]); first | done | rfl | (simp only [List.length_drop, List.length_take]; rfl)) ?_; (with_reducible refine (batch_PutG.calls 5 _ _ y149 t152 t155 _ ?side1 ?side2 A1.out).mono ?_); (case side1 => repeat (first | exact (Kd.S_reads' HO151.out).2.2 | (with_reducible refine Kd.C_alloc ?_ _) | (with_reducible refine Kd.C_drewN ?_ _) | (with_reducible refine Kd.C_drew ?_))); (case side2 => exact (Kd.S_reads' HO151.out).2.1); rintro e w11 ⟨v153, rfl, ho0, hb⟩; refine ⟨_, rfl, ?_⟩; have n0_ := Aside0.mk (Kd.S_below (by (with_reducible repeat (first | apply Kd.S_alloc | apply Kd.S_drewN | apply Kd.S_drew)); exact HO151.out) hb); have n1_ := Aside0.mk (Kd.R_lower ho0 (below_size (by repeat (first | (with_reducible first | exact HB.out | apply below_alloc | apply pw_below_drewN | apply below_drew1) | exact HB.out)))); have n2_ := Aside0.mk (below_step (by repeat (first | (with_reducible first | exact HB.out | apply below_alloc | apply pw_below_drewN | apply below_drew1) | exact HB.out)) hb); clear HO151; clear HB; have HO151 := n0_; have HO154 := n1_; have HB := n2_; clear n0_ n1_ n2_; (try clear hb); (try clear hb2); (try clear hk); (try clear hi); (try clear ho0); have hcv12 := own_string (P := Try.prog) Try.underlying27 Try.underlying5 Try.underlying9 (Kd.own_of_R HO154.out)))
    go_ret
    exact ⟨by first | rfl | (simp [errW_none, errW_some] <;> rfl) | (simp [*, errW_none, errW_some] <;> rfl), by repeat (first | (with_reducible first | exact HB.out | apply below_alloc | apply pw_below_drewN | apply below_drew1) | exact HB.out)⟩

end Go.Proofs.Ytafeakcajhhkoaa.Prt
namespace Go.Proofs.Ytafeakcajhhkoaa.Prt
open Go.RowKit Go.Proofs.YtafeakcajhhkoaaW.PrintWords Go.Proofs.YtafeakcajhhkoaaW.PrintLast Go.Proofs.YtafeakcajhhkoaaW.PrintMore
attribute [local go_sem] max2_int min2_int max_two min_two max_three min_three max_four min_four   -- for this text's walks alone
set_option linter.unusedVariables false
set_option linter.unusedSimpArgs false

end Go.Proofs.Ytafeakcajhhkoaa.Prt
namespace Go.Proofs.Ytafeakcajhhkoaa.Prt
open Go.RowKit Go.Proofs.YtafeakcajhhkoaaW.PrintWords Go.Proofs.YtafeakcajhhkoaaW.PrintLast Go.Proofs.YtafeakcajhhkoaaW.PrintMore Go.Proofs.Ytafeakcajhhkoaa.Num Go.Proofs.Ytafeakcajhhkoaa.Nam
set_option linter.unusedVariables false
set_option linter.unusedSimpArgs false

theorem batchPutG_ok {a : Int} {l : List S40} (h : l.all fitX = true) : batch_PutG.f a l = some (if mayB a l = 0 then (encB a l, 0) else ([], mayB a l)) := if_pos h
theorem okB_st : OkB 5 [⟨(⟨#[115]⟩ : ByteArray), (⟨#[116]⟩ : ByteArray), [], []⟩] := ⟨by decide, by decide, fun x hx => by
  rw [List.mem_singleton] at hx
  subst hx
  exact ok_st, by decide, by decide⟩
theorem encB_st : encB 5 [⟨(⟨#[115]⟩ : ByteArray), (⟨#[116]⟩ : ByteArray), [], []⟩] = [10, 2, 2, 115, 2, 116, 0, 0] := by
  show enc 5 ++ (enc 1 ++ encEs [_]) = _
  rw [encEs_cons]
  show enc 5 ++ (enc 1 ++ (encEv (⟨#[115]⟩ : ByteArray) (⟨#[116]⟩ : ByteArray) [] [] ++ [])) = _
  rw [enc_1, enc_st]
  have : enc 5 = [10] := by unfold enc zz; rw [if_neg (by omega), encN_lt (by decide)]; rfl
  rw [this]; rfl
theorem shown10 : registrarlaw10_shown.f = some true := by
  unfold registrarlaw10_shown.f
  rw [batchPutG_ok okB_st.fit, if_pos (mayB_zero.2 okB_st), encB_st]
  simp only [Option.bind_some]
  rw [if_pos (by rw [strOfNums_toList]; rfl)]; rfl
theorem OkB.i64s {a : Int} {l : List S40} (h : OkB a l) : i64 a ∧ i64 (l.length : Int) := by
  have := h.h1; have := h.h16; have := h.h0; have := h.hm
  exact ⟨⟨by omega, by omega⟩, ⟨by omega, by omega⟩⟩
theorem encB_bytes (a : Int) (l : List S40) : isBytes (encB a l) := isBytes_append.2 ⟨enc_bytes _, isBytes_append.2 ⟨enc_bytes _, encEs_bytes l⟩⟩
def eqB (a : Int) (l : List S40) (a' : Int) (l' : List S40) : Bool := eqL eqE l l' && decide (a = a')
theorem eqB_iff {a : Int} {l : List S40} {a' : Int} {l' : List S40} : eqB a l a' l' = true ↔ a = a' ∧ l = l' := by
  unfold eqB
  rw [Bool.and_eq_true, decide_eq_true_iff, eqL_iff eqE_iff]
  exact ⟨fun h => ⟨h.2, h.1⟩, fun h => ⟨h.2, h.1⟩⟩
end Go.Proofs.Ytafeakcajhhkoaa.Prt
namespace Go.Proofs.Ytafeakcajhhkoaa.Prt
open Go.RowKit Go.Proofs.YtafeakcajhhkoaaW.PrintWords Go.Proofs.YtafeakcajhhkoaaW.PrintLast Go.Proofs.YtafeakcajhhkoaaW.PrintMore
attribute [local go_sem] max2_int min2_int max_two min_two max_three min_three max_four min_four   -- for this text's walks alone
set_option linter.unusedVariables false
set_option linter.unusedSimpArgs false

end Go.Proofs.Ytafeakcajhhkoaa.Prt
namespace Go.Proofs.Ytafeakcajhhkoaa.Prt
open Go.RowKit Go.Proofs.YtafeakcajhhkoaaW.PrintWords Go.Proofs.YtafeakcajhhkoaaW.PrintLast Go.Proofs.YtafeakcajhhkoaaW.PrintMore
attribute [local go_sem] max2_int min2_int max_two min_two max_three min_three max_four min_four   -- for this text's walks alone
set_option linter.unusedVariables false
set_option linter.unusedSimpArgs false

def registrarref10_Same.f (a0_0 : Int) (l0_1 : List (S40)) (a1_0 : Int) (l1_1 : List (S40)) : Option (Bool) := (registrarref04_SameAllG.f l0_1 l1_1).bind fun t293 => (if a0_0 = a1_0 then (some t293) else (some false))
set_option maxHeartbeats 8000000 in
set_option maxRecDepth 100000 in
theorem registrarref10_Same.calls (a0_0 : Int) (A0_1 : Option Addr) (c0_1 : Nat) (l0_1 : List (S40)) (a1_0 : Int) (A1_1 : Option Addr) (c1_1 : Nat) (l1_1 : List (S40)) (r : Bool) (w : World) (hr0_1 : Kd.C k40 w A0_1 l0_1.length l0_1) (hc0_1 : l0_1.length ≤ c0_1) (hr1_1 : Kd.C k40 w A1_1 l1_1.length l1_1) (hc1_1 : l1_1.length ≤ c1_1) (h : registrarref10_Same.f a0_0 l0_1 a1_0 l1_1 = some r) :
    Calls Try.prog 15 #[.agg #[.int .i64 a0_0, .slice A0_1 l0_1.length c0_1], .agg #[.int .i64 a1_0, .slice A1_1 l1_1.length c1_1]] w fun e w' => e = .returned (.bool r) ∧ Below w.heap.size w w' := by
  have hu24 := Try.underlying24
  have HR0_1 := Aside0.mk hr0_1
  have HC0_1 := Aside0.mk hc0_1
  clear hr0_1 hc0_1
  have HR1_1 := Aside0.mk hr1_1
  have HC1_1 := Aside0.mk hc1_1
  clear hr1_1 hc1_1
  have HB := Aside0.mk (Below.refl w.heap.size w)
  have H : ((registrarref04_SameAllG.f l0_1 l1_1).bind fun t293 => (if a0_0 = a1_0 then (some t293) else (some false))) = some r := h
  clear h
  replace H := Option.bind_eq_some_iff.mp H
  obtain ⟨t293, A30, H⟩ := H
  replace H : (if a0_0 = a1_0 then (some t293) else (some false)) = some r := H
  have A3 := Aside0.mk A30
  clear A30
  by_cases c4 : a0_0 = a1_0
  · rw [if_pos c4] at H
    have c4b0 : (a0_0 == a1_0) = true := beq_iff_eq.mpr c4
    have c4b1 : (a0_0 != a1_0) = false := bne_eq_false_iff_eq.mpr c4
    clear c4
    obtain rfl := Option.some.inj H
    go_enter Try.func15, Try.ntmps15
    go_wp2_with (first | ((with_reducible refine gate_dst (N := 2) rfl ?_); refine box_event ?hg (N := 2) ?hd (cs := #[.int .i64 a0_0, .slice A0_1 l0_1.length c0_1]) (t := 24) ?hr ?_; (case hd => rfl); (case hg => rfl); (case hr => first | (go_simp; done) | (go_simp; rfl)); intro gb291 hg w5 hbox hb; have n0_ := Aside0.mk (below_step (by repeat (first | (with_reducible first | exact HB.out | apply below_alloc | apply pw_below_drewN | apply below_drew1) | exact HB.out)) hb); have n1_ := Aside0.mk (hbox); have n2_ := Aside0.mk ((by rw [hg]; exact (below_size (by repeat (first | (with_reducible first | exact HB.out | apply below_alloc | apply pw_below_drewN | apply below_drew1) | exact HB.out))) : w.heap.size ≤ gb291)); have n3_ := Aside0.mk ((by rw [hg]; exact (below_size (by repeat (first | (with_reducible first | exact HB.out | apply below_alloc | apply pw_below_drewN | apply below_drew1) | exact HB.out))) : w.heap.size ≤ gb291)); clear HB; have HB := n0_; have BK291 := n1_; have GW291 := n2_; have GE291 := n3_; clear n0_ n1_ n2_ n3_; clear hb hbox hg) | ((with_reducible refine gate_dst (N := 3) rfl ?_); refine box_event ?hg (N := 3) ?hd (cs := #[.int .i64 a1_0, .slice A1_1 l1_1.length c1_1]) (t := 24) ?hr ?_; (case hd => rfl); (case hg => rfl); (case hr => first | (go_simp; done) | (go_simp; rfl)); intro gb292 hg w6 hbox hb; have n0_ := Aside0.mk (blk_below (g := gb291) (o := .cells #[.int .i64 a0_0, .slice A0_1 l0_1.length c0_1] 24 (0, 0)) (by (with_reducible repeat (first | refine blk_drewN ?_ _ | refine blk_drew ?_ | refine blk_alloc ?_ _)); exact BK291.out) hb); have n1_ := Aside0.mk (below_step (by repeat (first | (with_reducible first | exact HB.out | apply below_alloc | apply pw_below_drewN | apply below_drew1 | refine below_set ?_ GE291.out) | exact HB.out)) hb); have n2_ := Aside0.mk (hbox); have n3_ := Aside0.mk ((by rw [hg]; exact (below_size (by repeat (first | (with_reducible first | exact HB.out | apply below_alloc | apply pw_below_drewN | apply below_drew1 | refine below_set ?_ GE291.out) | exact HB.out))) : w.heap.size ≤ gb292)); have n4_ := Aside0.mk ((by rw [hg]; exact (below_size (by repeat (first | (with_reducible first | exact HB.out | apply below_alloc | apply pw_below_drewN | apply below_drew1 | refine below_set ?_ GE291.out) | exact HB.out))) : w.heap.size ≤ gb292)); have n5_ := Aside0.mk ((by rw [hg]; exact Nat.ne_of_lt (blk_lt (g := gb291) (o := .cells #[.int .i64 a0_0, .slice A0_1 l0_1.length c0_1] 24 (0, 0)) (by (with_reducible repeat (first | refine blk_drewN ?_ _ | refine blk_drew ?_ | refine blk_alloc ?_ _)); exact BK291.out)) : gb291 ≠ gb292)); have n6_ := Aside0.mk ((by rw [hg]; exact Nat.ne_of_gt (blk_lt (g := gb291) (o := .cells #[.int .i64 a0_0, .slice A0_1 l0_1.length c0_1] 24 (0, 0)) (by (with_reducible repeat (first | refine blk_drewN ?_ _ | refine blk_drew ?_ | refine blk_alloc ?_ _)); exact BK291.out)) : gb292 ≠ gb291)); clear BK291; clear HB; have BK291 := n0_; have HB := n1_; have BK292 := n2_; have GW292 := n3_; have GE292 := n4_; have NB291_292 := n5_; have NB292_291 := n6_; clear n0_ n1_ n2_ n3_ n4_ n5_ n6_; clear hb hbox hg; have hnb7 := NB291_292.out; have hnc7 := NB292_291.out; have hcz8_0 : w6.cell? ⟨gb291, 0, none⟩ = some (.int .i64 a0_0) := (blk_cell BK291.out 0).trans rfl; have hcz8_1 : w6.cell? ⟨gb291, 1, none⟩ = some (.slice A0_1 l0_1.length c0_1) := (blk_cell BK291.out 1).trans rfl; have hfz8_0 := blk_frozen BK291.out 0; have hfz8_1 := blk_frozen BK291.out 1; have hcz9_0 : w6.cell? ⟨gb292, 0, none⟩ = some (.int .i64 a1_0) := (blk_cell BK292.out 0).trans rfl; have hcz9_1 : w6.cell? ⟨gb292, 1, none⟩ = some (.slice A1_1 l1_1.length c1_1) := (blk_cell BK292.out 1).trans rfl; have hfz9_0 := blk_frozen BK292.out 0; have hfz9_1 := blk_frozen BK292.out 1) | ((with_reducible refine gate_callee (f := 24) rfl ?_); refine goesL_ (some 10) rfl rfl Try.func24 (by kernel_rfl) rfl #[.slice A0_1 l0_1.length c0_1, .slice A1_1 l1_1.length c1_1] rfl (by (try simp only [List.map_toArray, List.map_cons, List.map_nil]); first | done | rfl | (simp only [List.length_drop, List.length_take]; rfl)) ?_; (with_reducible refine (registrarref04_SameAllG.calls _ _ l0_1 _ _ l1_1 t293 _ ?side1 ?side2 ?side3 ?side4 A3.out).mono ?_); (case side1 => repeat (first | exact (Kd.C_below HR0_1.out HB.out) | (with_reducible refine Kd.C_alloc ?_ _) | (with_reducible refine Kd.C_drewN ?_ _) | (with_reducible refine Kd.C_drew ?_))); (case side2 => exact HC0_1.out); (case side3 => repeat (first | exact (Kd.C_below HR1_1.out HB.out) | (with_reducible refine Kd.C_alloc ?_ _) | (with_reducible refine Kd.C_drewN ?_ _) | (with_reducible refine Kd.C_drew ?_))); (case side4 => exact HC1_1.out); rintro e w10 ⟨rfl, hb⟩; refine ⟨_, rfl, ?_⟩; have n0_ := Aside0.mk (blk_below (g := gb291) (o := .cells #[.int .i64 a0_0, .slice A0_1 l0_1.length c0_1] 24 (0, 0)) (by (with_reducible repeat (first | refine blk_drewN ?_ _ | refine blk_drew ?_ | refine blk_alloc ?_ _)); exact BK291.out) hb); have n1_ := Aside0.mk (blk_below (g := gb292) (o := .cells #[.int .i64 a1_0, .slice A1_1 l1_1.length c1_1] 24 (0, 0)) (by (with_reducible repeat (first | refine blk_drewN ?_ _ | refine blk_drew ?_ | refine blk_alloc ?_ _)); exact BK292.out) hb); have n2_ := Aside0.mk (below_step (by repeat (first | (with_reducible first | exact HB.out | apply below_alloc | apply pw_below_drewN | apply below_drew1 | refine below_set ?_ GE291.out | refine below_set ?_ GE292.out) | exact HB.out)) hb); clear BK291; clear BK292; clear HB; have BK291 := n0_; have BK292 := n1_; have HB := n2_; clear n0_ n1_ n2_; (try clear hb); (try clear hb2); (try clear hk); (try clear hi); have hcz11_0 : w10.cell? ⟨gb291, 0, none⟩ = some (.int .i64 a0_0) := (blk_cell BK291.out 0).trans rfl; have hcz11_1 : w10.cell? ⟨gb291, 1, none⟩ = some (.slice A0_1 l0_1.length c0_1) := (blk_cell BK291.out 1).trans rfl; have hfz11_0 := blk_frozen BK291.out 0; have hfz11_1 := blk_frozen BK291.out 1; have hcz12_0 : w10.cell? ⟨gb292, 0, none⟩ = some (.int .i64 a1_0) := (blk_cell BK292.out 0).trans rfl; have hcz12_1 : w10.cell? ⟨gb292, 1, none⟩ = some (.slice A1_1 l1_1.length c1_1) := (blk_cell BK292.out 1).trans rfl; have hfz12_0 := blk_frozen BK292.out 0; have hfz12_1 := blk_frozen BK292.out 1))
    go_ret
    exact ⟨by first | rfl | (simp [errW_none, errW_some] <;> rfl) | (simp [*, errW_none, errW_some] <;> rfl), by repeat (first | (with_reducible first | exact HB.out | apply below_alloc | apply pw_below_drewN | apply below_drew1 | refine below_set ?_ GE291.out | refine below_set ?_ GE292.out) | exact HB.out)⟩
  · rw [if_neg c4] at H
    have c4b0 : (a0_0 == a1_0) = false := beq_eq_false_iff_ne.mpr c4
    have c4b1 : (a0_0 != a1_0) = true := bne_iff_ne.mpr c4
    obtain rfl := Option.some.inj H
    go_enter Try.func15, Try.ntmps15
    go_wp2_with (first | ((with_reducible refine gate_dst (N := 2) rfl ?_); refine box_event ?hg (N := 2) ?hd (cs := #[.int .i64 a0_0, .slice A0_1 l0_1.length c0_1]) (t := 24) ?hr ?_; (case hd => rfl); (case hg => rfl); (case hr => first | (go_simp; done) | (go_simp; rfl)); intro gb291 hg w13 hbox hb; have n0_ := Aside0.mk (below_step (by repeat (first | (with_reducible first | exact HB.out | apply below_alloc | apply pw_below_drewN | apply below_drew1) | exact HB.out)) hb); have n1_ := Aside0.mk (hbox); have n2_ := Aside0.mk ((by rw [hg]; exact (below_size (by repeat (first | (with_reducible first | exact HB.out | apply below_alloc | apply pw_below_drewN | apply below_drew1) | exact HB.out))) : w.heap.size ≤ gb291)); have n3_ := Aside0.mk ((by rw [hg]; exact (below_size (by repeat (first | (with_reducible first | exact HB.out | apply below_alloc | apply pw_below_drewN | apply below_drew1) | exact HB.out))) : w.heap.size ≤ gb291)); clear HB; have HB := n0_; have BK291 := n1_; have GW291 := n2_; have GE291 := n3_; clear n0_ n1_ n2_ n3_; clear hb hbox hg) | ((with_reducible refine gate_dst (N := 3) rfl ?_); refine box_event ?hg (N := 3) ?hd (cs := #[.int .i64 a1_0, .slice A1_1 l1_1.length c1_1]) (t := 24) ?hr ?_; (case hd => rfl); (case hg => rfl); (case hr => first | (go_simp; done) | (go_simp; rfl)); intro gb292 hg w14 hbox hb; have n0_ := Aside0.mk (blk_below (g := gb291) (o := .cells #[.int .i64 a0_0, .slice A0_1 l0_1.length c0_1] 24 (0, 0)) (by (with_reducible repeat (first | refine blk_drewN ?_ _ | refine blk_drew ?_ | refine blk_alloc ?_ _)); exact BK291.out) hb); have n1_ := Aside0.mk (below_step (by repeat (first | (with_reducible first | exact HB.out | apply below_alloc | apply pw_below_drewN | apply below_drew1 | refine below_set ?_ GE291.out) | exact HB.out)) hb); have n2_ := Aside0.mk (hbox); have n3_ := Aside0.mk ((by rw [hg]; exact (below_size (by repeat (first | (with_reducible first | exact HB.out | apply below_alloc | apply pw_below_drewN | apply below_drew1 | refine below_set ?_ GE291.out) | exact HB.out))) : w.heap.size ≤ gb292)); have n4_ := Aside0.mk ((by rw [hg]; exact (below_size (by repeat (first | (with_reducible first | exact HB.out | apply below_alloc | apply pw_below_drewN | apply below_drew1 | refine below_set ?_ GE291.out) | exact HB.out))) : w.heap.size ≤ gb292)); have n5_ := Aside0.mk ((by rw [hg]; exact Nat.ne_of_lt (blk_lt (g := gb291) (o := .cells #[.int .i64 a0_0, .slice A0_1 l0_1.length c0_1] 24 (0, 0)) (by (with_reducible repeat (first | refine blk_drewN ?_ _ | refine blk_drew ?_ | refine blk_alloc ?_ _)); exact BK291.out)) : gb291 ≠ gb292)); have n6_ := Aside0.mk ((by rw [hg]; exact Nat.ne_of_gt (blk_lt (g := gb291) (o := .cells #[.int .i64 a0_0, .slice A0_1 l0_1.length c0_1] 24 (0, 0)) (by (with_reducible repeat (first | refine blk_drewN ?_ _ | refine blk_drew ?_ | refine blk_alloc ?_ _)); exact BK291.out)) : gb292 ≠ gb291)); clear BK291; clear HB; have BK291 := n0_; have HB := n1_; have BK292 := n2_; have GW292 := n3_; have GE292 := n4_; have NB291_292 := n5_; have NB292_291 := n6_; clear n0_ n1_ n2_ n3_ n4_ n5_ n6_; clear hb hbox hg; have hnb15 := NB291_292.out; have hnc15 := NB292_291.out; have hcz16_0 : w14.cell? ⟨gb291, 0, none⟩ = some (.int .i64 a0_0) := (blk_cell BK291.out 0).trans rfl; have hcz16_1 : w14.cell? ⟨gb291, 1, none⟩ = some (.slice A0_1 l0_1.length c0_1) := (blk_cell BK291.out 1).trans rfl; have hfz16_0 := blk_frozen BK291.out 0; have hfz16_1 := blk_frozen BK291.out 1; have hcz17_0 : w14.cell? ⟨gb292, 0, none⟩ = some (.int .i64 a1_0) := (blk_cell BK292.out 0).trans rfl; have hcz17_1 : w14.cell? ⟨gb292, 1, none⟩ = some (.slice A1_1 l1_1.length c1_1) := (blk_cell BK292.out 1).trans rfl; have hfz17_0 := blk_frozen BK292.out 0; have hfz17_1 := blk_frozen BK292.out 1) | ((with_reducible refine gate_callee (f := 24) rfl ?_); refine goesL_ (some 10) rfl rfl Try.func24 (by kernel_rfl) rfl #[.slice A0_1 l0_1.length c0_1, .slice A1_1 l1_1.length c1_1] rfl (by (try simp only [List.map_toArray, List.map_cons, List.map_nil]); first | done | rfl | (simp only [List.length_drop, List.length_take]; rfl)) ?_; (with_reducible refine (registrarref04_SameAllG.calls _ _ l0_1 _ _ l1_1 t293 _ ?side1 ?side2 ?side3 ?side4 A3.out).mono ?_); (case side1 => repeat (first | exact (Kd.C_below HR0_1.out HB.out) | (with_reducible refine Kd.C_alloc ?_ _) | (with_reducible refine Kd.C_drewN ?_ _) | (with_reducible refine Kd.C_drew ?_))); (case side2 => exact HC0_1.out); (case side3 => repeat (first | exact (Kd.C_below HR1_1.out HB.out) | (with_reducible refine Kd.C_alloc ?_ _) | (with_reducible refine Kd.C_drewN ?_ _) | (with_reducible refine Kd.C_drew ?_))); (case side4 => exact HC1_1.out); rintro e w18 ⟨rfl, hb⟩; refine ⟨_, rfl, ?_⟩; have n0_ := Aside0.mk (blk_below (g := gb291) (o := .cells #[.int .i64 a0_0, .slice A0_1 l0_1.length c0_1] 24 (0, 0)) (by (with_reducible repeat (first | refine blk_drewN ?_ _ | refine blk_drew ?_ | refine blk_alloc ?_ _)); exact BK291.out) hb); have n1_ := Aside0.mk (blk_below (g := gb292) (o := .cells #[.int .i64 a1_0, .slice A1_1 l1_1.length c1_1] 24 (0, 0)) (by (with_reducible repeat (first | refine blk_drewN ?_ _ | refine blk_drew ?_ | refine blk_alloc ?_ _)); exact BK292.out) hb); have n2_ := Aside0.mk (below_step (by repeat (first | (with_reducible first | exact HB.out | apply below_alloc | apply pw_below_drewN | apply below_drew1 | refine below_set ?_ GE291.out | refine below_set ?_ GE292.out) | exact HB.out)) hb); clear BK291; clear BK292; clear HB; have BK291 := n0_; have BK292 := n1_; have HB := n2_; clear n0_ n1_ n2_; (try clear hb); (try clear hb2); (try clear hk); (try clear hi); have hcz19_0 : w18.cell? ⟨gb291, 0, none⟩ = some (.int .i64 a0_0) := (blk_cell BK291.out 0).trans rfl; have hcz19_1 : w18.cell? ⟨gb291, 1, none⟩ = some (.slice A0_1 l0_1.length c0_1) := (blk_cell BK291.out 1).trans rfl; have hfz19_0 := blk_frozen BK291.out 0; have hfz19_1 := blk_frozen BK291.out 1; have hcz20_0 : w18.cell? ⟨gb292, 0, none⟩ = some (.int .i64 a1_0) := (blk_cell BK292.out 0).trans rfl; have hcz20_1 : w18.cell? ⟨gb292, 1, none⟩ = some (.slice A1_1 l1_1.length c1_1) := (blk_cell BK292.out 1).trans rfl; have hfz20_0 := blk_frozen BK292.out 0; have hfz20_1 := blk_frozen BK292.out 1))
    go_ret
    exact ⟨by first | rfl | (simp [errW_none, errW_some] <;> rfl) | (simp [*, errW_none, errW_some] <;> rfl), by repeat (first | (with_reducible first | exact HB.out | apply below_alloc | apply pw_below_drewN | apply below_drew1 | refine below_set ?_ GE291.out | refine below_set ?_ GE292.out) | exact HB.out)⟩

end Go.Proofs.Ytafeakcajhhkoaa.Prt
namespace Go.Proofs.Ytafeakcajhhkoaa.Prt
open Go.RowKit Go.Proofs.YtafeakcajhhkoaaW.PrintWords Go.Proofs.YtafeakcajhhkoaaW.PrintLast Go.Proofs.YtafeakcajhhkoaaW.PrintMore
attribute [local go_sem] max2_int min2_int max_two min_two max_three min_three max_four min_four   -- for this text's walks alone
set_option linter.unusedVariables false
set_option linter.unusedSimpArgs false

end Go.Proofs.Ytafeakcajhhkoaa.Prt
namespace Go.Proofs.Ytafeakcajhhkoaa.Prt
open Go.RowKit Go.Proofs.YtafeakcajhhkoaaW.PrintWords Go.Proofs.YtafeakcajhhkoaaW.PrintLast Go.Proofs.YtafeakcajhhkoaaW.PrintMore
attribute [local go_sem] max2_int min2_int max_two min_two max_three min_three max_four min_four   -- for this text's walks alone
set_option linter.unusedVariables false
set_option linter.unusedSimpArgs false

end Go.Proofs.Ytafeakcajhhkoaa.Prt
namespace Go.Proofs.Ytafeakcajhhkoaa.Prt
open Go.RowKit Go.Proofs.YtafeakcajhhkoaaW.PrintWords Go.Proofs.YtafeakcajhhkoaaW.PrintLast Go.Proofs.YtafeakcajhhkoaaW.PrintMore Go.Proofs.Ytafeakcajhhkoaa.Num Go.Proofs.Ytafeakcajhhkoaa.Nam
set_option linter.unusedVariables false
set_option linter.unusedSimpArgs false

theorem sameB_ok {a : Int} {l : List S40} {a' : Int} {l' : List S40} (hl : l.length ≤ 9223372036854775807) (h : l.all lenE = true) : registrarref10_Same.f a l a' l' = some (eqB a l a' l') := by
  have m : registrarref04_SameAllG.f l l' = some (eqL eqE l l') := if_pos ⟨hl, h⟩
  unfold registrarref10_Same.f eqB
  rw [m]
  simp only [Option.bind_some]
  by_cases e : a = a'
  · rw [if_pos e, decide_eq_true e, Bool.and_true]
  · rw [if_neg e, decide_eq_false e, Bool.and_false]
end Go.Proofs.Ytafeakcajhhkoaa.Prt
namespace Go.Proofs.Ytafeakcajhhkoaa.Prt
open Go.RowKit Go.Proofs.YtafeakcajhhkoaaW.PrintWords Go.Proofs.YtafeakcajhhkoaaW.PrintLast Go.Proofs.YtafeakcajhhkoaaW.PrintMore Go.Proofs.Ytafeakcajhhkoaa.Num Go.Proofs.Ytafeakcajhhkoaa.Nam
set_option linter.unusedVariables false
set_option linter.unusedSimpArgs false

/-- A batch taken. -/
def takeB (b : List Int) : S24 × Int :=
  if (takeAll ((aft (aft b)).length + 1) (aft (aft b)) []).2 ≠ 0 ∨ badOf (aft b) (badOf b false) = true ∨ numOf (aft b) ≠ ((takeAll ((aft (aft b)).length + 1) (aft (aft b)) []).1.length : Int) then (z24, 2)
  else if mayB (numOf b) (takeAll ((aft (aft b)).length + 1) (aft (aft b)) []).1 = 0 ∧ encB (numOf b) (takeAll ((aft (aft b)).length + 1) (aft (aft b)) []).1 = b then (⟨numOf b, (takeAll ((aft (aft b)).length + 1) (aft (aft b)) []).1⟩, 0) else (z24, 2)
theorem takeB_enc {a : Int} {l : List S40} (h : OkB a l) : takeB (encB a l) = (⟨a, l⟩, 0) := by
  obtain ⟨a1, a2, a3⟩ := numOf_enc h.i64s.1 (enc (l.length : Int) ++ encEs l) false
  obtain ⟨b1, b2, b3⟩ := numOf_enc h.i64s.2 (encEs l) false
  have hlo := encEs_long l
  have c := takeAll_enc l ((encEs l).length + 1) [] h.ho (by omega)
  rw [List.nil_append] at c
  have e : encB a l = enc a ++ (enc (l.length : Int) ++ encEs l) := rfl
  unfold takeB
  rw [e]
  simp only [a1, a2, a3, b1, b2, b3, c]
  rw [if_neg (by simp), if_pos ⟨mayB_zero.2 h, by rw [← e]⟩]
theorem takeB_code (b : List Int) : (∃ a l, takeB b = (⟨a, l⟩, 0) ∧ OkB a l ∧ b = encB a l) ∨ takeB b = (z24, 2) := by
  unfold takeB
  split
  · exact .inr rfl
  · split
    · rename_i h
      exact .inl ⟨_, _, rfl, mayB_zero.1 h.1, h.2.symm⟩
    · exact .inr rfl
theorem takeB_no {b : List Int} (h : ∀ a l, OkB a l → b ≠ encB a l) : takeB b = (z24, 2) := by
  rcases takeB_code b with ⟨a, l, _, h1, h2⟩ | h2
  · exact absurd h2 (h a l h1)
  · exact h2
theorem aft_cut {l : List Int} (h : isBytes l) : ∃ p, l = p ++ aft l := by
  unfold aft
  cases hd : dec l with
  | none => exact ⟨l, (List.append_nil l).symm⟩
  | some q => exact ⟨_, (dec_sound h hd).1⟩
theorem aft_drop {l : List Int} (h : isBytes l) : (aft (aft l)).length ≤ l.length ∧ l.drop (l.length - (aft (aft l)).length) = aft (aft l) := by
  obtain ⟨p, hp⟩ := aft_cut h
  obtain ⟨q, hq⟩ := aft_cut (aft_bytes h)
  have e : l = (p ++ q) ++ aft (aft l) := by rw [List.append_assoc, ← hq]; exact hp
  have hl := congrArg List.length e
  rw [List.length_append] at hl
  have e2 : l.length - (aft (aft l)).length = (p ++ q).length := by omega
  refine ⟨by omega, ?_⟩
  rw [e2]
  generalize aft (aft l) = r at e
  rw [e, List.drop_left]
theorem takeAll_ok {l : List Int} (hb : isBytes l) {m : List S40} (h : takeAll (l.length + 1) l [] = (m, 0)) : (∀ x ∈ m, OkX x) ∧ l = encEs m := by
  obtain ⟨gg, e1, e2, e3⟩ := takeAll_good (l.length + 1) l [] m hb (Nat.lt_succ_self _) h
  rw [List.nil_append] at e1
  subst e1
  exact ⟨e2, e3⟩
/-- Strings of bytes are alike just if the bytes are. -/
theorem bytes_eq {a b : List Int} (ha : isBytes a) (hb : isBytes b) : ((strOfNums a).toList == (strOfNums b).toList) = decide (a = b) := str_beq ha hb
end Go.Proofs.Ytafeakcajhhkoaa.Prt
namespace Go.Proofs.Ytafeakcajhhkoaa.Prt
open Go.RowKit Go.Proofs.YtafeakcajhhkoaaW.PrintWords Go.Proofs.YtafeakcajhhkoaaW.PrintLast Go.Proofs.YtafeakcajhhkoaaW.PrintMore Go.Proofs.Ytafeakcajhhkoaa.Num Go.Proofs.Ytafeakcajhhkoaa.Nam
set_option linter.unusedVariables false
set_option linter.unusedSimpArgs false

theorem equal_calls (A : Option Addr) (c : Nat) (l : List Int) (A' : Option Addr) (c' : Nat) (l' : List Int) (w : World) (hr : Kd.C (Kd.int .u8) w A l.length l) (hc : l.length ≤ c) (hr' : Kd.C (Kd.int .u8) w A' l'.length l') (hc' : l'.length ≤ c') (hb : isBytes l) (hb' : isBytes l') :
    Calls Try.prog 31 #[.slice A l.length c, .slice A' l'.length c'] w fun e w' => e = .returned (.bool (decide (l = l'))) ∧ w = w' := by
  have HR := Aside0.mk hr
  have HR' := Aside0.mk hr'
  have HE := Aside0.mk (bytes_eq hb hb')
  clear hr hr' hb hb' hc hc'
  go_enter Try.func31, Try.ntmps31
  go_wp2_with (first | ((with_reducible refine gate_dst (N := 6) rfl ?_); (try (refine gate_guard (by rfl) ?_; dsimp only)); refine Gen.ev_string' (strOfNums l) rfl 27 9 5 (.tmp 5) rfl Try.underlying27 Try.underlying9 Try.underlying5 rfl HR.out rfl ?_) | ((with_reducible refine gate_dst (N := 8) rfl ?_); (try (refine gate_guard (by rfl) ?_; dsimp only)); refine Gen.ev_string' (strOfNums l') rfl 27 9 5 (.tmp 7) rfl Try.underlying27 Try.underlying9 Try.underlying5 rfl HR'.out rfl ?_))
  go_ret
  exact ⟨by rw [← HE.out]; rfl, rfl⟩
theorem S_set {α : Type} {d : Kd α} {e N t E : Nat} {w : World} {v : Value} {l : List α} {cells : Array Value} (h : Kd.S d e w N (fun _ => True) v l) (hb : w.heap[E]? = some (.cells cells t (0, 0))) (ht : ∀ q, q ∈ e :: d.E → q ≠ t) (i : Nat) (u : Value) : Kd.S d e (w.setCell ⟨E, i, none⟩ u) N (fun _ => True) v l :=
  Kd.S_mono (Kd.S_far (p := ⟨E, i, none⟩) (Kd.S_types h hb ht) (fun k hk => hk.2) u) (fun _ _ => trivial)
theorem S_set2 {α : Type} {d : Kd α} {e N t E : Nat} {w : World} {v : Value} {l : List α} {cells : Array Value} (h : Kd.S d e w N (fun _ => True) v l) (hb : w.heap[E]? = some (.cells cells t (0, 0))) (ht : ∀ q, q ∈ e :: d.E → q ≠ t) (u0 u1 : Value) : Kd.S d e ((w.setCell ⟨E, 0, none⟩ u0).setCell ⟨E, 1, none⟩ u1) N (fun _ => True) v l :=
  S_set (S_set h hb ht 0 u0) (blk_set hb 0 u0) ht 1 u1
theorem batchTake_calls (A0 : Option Addr) (c0 : Nat) (l0 : List Int) (w : World) (hr0 : Kd.C (Kd.int .u8) w A0 l0.length l0) (hc0 : l0.length ≤ c0) (hby : isBytes l0) (hlen : l0.length ≤ 1000000000000) (r1 : S24) (r2 : Int) (h : takeB l0 = (r1, r2)) :
    Calls Try.prog 18 #[.slice A0 l0.length c0] w fun e w' => ∃ v1_ : Value, e = .returned (.tuple #[.agg #[.int .i64 r1.f0, v1_], .int .i64 r2]) ∧ Kd.S k40 40 w' w.heap.size (fun _ => True) v1_ r1.f1 ∧ Below w.heap.size w w' := by
  have HR0 := Aside0.mk hr0
  have HC0 := Aside0.mk hc0
  have HBY := Aside0.mk hby
  have HH := Aside0.mk h
  clear hr0 hc0 hby h
  have hu24 := Try.underlying24
  go_enter Try.func18, Try.ntmps18
  go_upto_region 1 with (first | ((with_reducible refine gate_dst (N := 2) rfl ?_); (try (refine gate_guard (by rfl) ?_; dsimp only)); refine box_event ?hg (N := 2) ?hd (cs := #[.int .i64 0, .slice none 0 0]) (t := 24) ?hr ?_; (case hd => rfl); (case hg => rfl); (case hr => first | (go_simp; done) | (go_simp; rfl)); intro Q hg_ w1 hbox_ hb_; have HQ := Aside0.mk hbox_; have HQN := Aside0.mk hg_; have HQB := Aside0.mk hb_; clear hbox_ hg_ hb_))
  go_wp2_with fail
  refine (newReader_calls A0 c0 l0 w1 (Kd.C_below HR0.out HQB.out) HC0.out).mono ?_
  rintro e w2 ⟨g, rfl, hI, hb, hg⟩
  have HWQ := Aside0.mk (show w.heap.size ≤ Q by rw [HQN.out]; exact Nat.le_refl _)
  have HG1 := Aside0.mk hg
  have HGQ := Aside0.mk (show Q ≠ g ∧ w.heap.size ≤ g ∧ Q < w1.heap.size by have h1 := blk_lt HQ.out; have h2 := HQB.out.size; omega)
  have HQ2 := Aside0.mk (blk_below HQ.out hb)
  have HB2 := Aside0.mk (below_step HQB.out hb)
  have HI2 := Aside0.mk hI
  clear HQ HQB HQN hI hb hg
  go_wp2_with fail
  refine (num_calls _ w2 g l0 false HI2.out HBY.out).mono ?_
  rintro e w3 ⟨rfl, hI, hb, hk⟩
  have HQ3 := Aside0.mk (hk.blk HQ2.out HGQ.out.1 (by simp))
  have HB3 := Aside0.mk (HB2.out.trans (hb.mono HGQ.out.2.1))
  have HI3 := Aside0.mk hI
  clear HQ2 HB2 HI2 hI hb hk
  obtain ⟨a, ha⟩ : ∃ a, a = numOf l0 := ⟨_, rfl⟩
  rw [← ha]
  have HA := Aside0.mk ha
  clear ha
  go_wp2_with fail
  refine (num_calls _ w3 g (aft l0) (badOf l0 false) HI3.out (aft_bytes HBY.out)).mono ?_
  rintro e w4 ⟨rfl, hI, hb, hk⟩
  have HQ4 := Aside0.mk (hk.blk HQ3.out HGQ.out.1 (by simp))
  have HB4 := Aside0.mk (HB3.out.trans (hb.mono HGQ.out.2.1))
  clear HQ3 HB3 HI3 hb hk
  obtain ⟨n, hn⟩ : ∃ n, n = numOf (aft l0) := ⟨_, rfl⟩
  rw [← hn]
  have HN := Aside0.mk hn
  clear hn
  obtain ⟨bad, hbad⟩ : ∃ bad, bad = badOf (aft l0) (badOf l0 false) := ⟨_, rfl⟩
  rw [← hbad] at hI
  have HBAD := Aside0.mk hbad
  clear hbad
  obtain ⟨l2, hl2⟩ : ∃ l2, l2 = aft (aft l0) := ⟨_, rfl⟩
  rw [← hl2] at hI
  have HI4 := Aside0.mk hI
  have HL2 := Aside0.mk hl2
  clear hl2 hI
  have HBY2 := Aside0.mk (show isBytes l2 by rw [HL2.out]; exact aft_bytes (aft_bytes HBY.out))
  obtain ⟨hle, hdr⟩ := aft_drop HBY.out
  rw [← HL2.out] at hle hdr
  obtain ⟨i0, hi0⟩ : ∃ i0, Try.prog.info? 5 = some i0 ∧ i0.size = 1 := by obtain ⟨i0, h1, h2⟩ := Option.map_eq_some_iff.1 size_u8; exact ⟨i0, h1, h2⟩
  obtain ⟨A', hcut, hA', hAb⟩ := cutL (P := Try.prog) 27 5 .i64 Try.underlying27 hi0.1 hi0.2 A0 l0.length c0 (l0.length - l2.length) (by omega)
  have hA2 := hA' w l0 HC0.out HR0.out
  rw [show ((l0.length - l2.length : Nat) : Int) = (l0.length : Int) - (l2.length : Int) by omega, show l0.length - (l0.length - l2.length) = l2.length by omega] at hcut
  rw [hdr, show l0.length - (l0.length - l2.length) = l2.length by omega] at hA2
  have HA2 := Aside0.mk (Kd.C_below hA2 HB4.out)
  have HC2 := Aside0.mk (show l2.length ≤ c0 - (l0.length - l2.length) by have := HC0.out; omega)
  have hm0 := Kd.C_max HR0.out
  clear hi0 hA' hA2 hAb hdr
  go_wp2_with fail
  refine (left_calls _ w4 g l2 bad HI4.out).mono ?_
  rintro e w5 ⟨rfl, rfl⟩
  obtain ⟨⟨m, r⟩, hq⟩ : ∃ q, takeAll (l2.length + 1) l2 [] = q := ⟨_, rfl⟩
  have HQA := Aside0.mk hq
  clear hq
  go_wp2_with fail
  refine (all_calls A' _ l2 w4 HA2.out HC2.out HBY2.out (by omega) m r HQA.out).mono ?_
  rintro e w6 ⟨vm, rfl, hS, hb⟩
  have HS := Aside0.mk (Kd.S_lower hS HB4.out.size)
  have HQ6 := Aside0.mk (blk_below HQ4.out hb)
  have HI6 := Aside0.mk (HI4.out.below hb)
  have HB6 := Aside0.mk (below_step HB4.out hb)
  clear hS hb HQ4 HI4 HB4 HA2 HC2 hcut
  obtain ⟨Am, cm, em⟩ := Kd.S_slice HS.out
  subst em
  go_upto_region 5 with (first | ((with_reducible refine gate_dst (N := 9) rfl ?_); (try (refine gate_guard (by rfl) ?_; dsimp only)); refine box_event ?hg (N := 9) ?hd (cs := #[.int .i64 0, .slice none 0 0]) (t := 24) ?hr ?_; (case hd => rfl); (case hg => rfl); (case hr => first | (go_simp; done) | (go_simp; rfl)); intro B hg_ w7 hbox_ hb_; have HX := Aside0.mk hbox_; have HXN := Aside0.mk hg_; have HXB := Aside0.mk hb_; clear hbox_ hg_ hb_; have hc0 := blk_cell HX.out 0; have hf0 := blk_frozen HX.out 0; have hc1 := blk_cell HX.out 1; have hf1 := blk_frozen HX.out 1))
  have HBQ := Aside0.mk (show g ≠ B ∧ Q ≠ B ∧ w.heap.size ≤ B ∧ ¬ B < w1.heap.size by
    have h1 := HI6.out.lt
    have h2 := blk_lt HQ6.out
    have h3 := HXN.out
    have h4 := HB6.out.size
    have h5 := HGQ.out
    have h6 := HG1.out
    omega)
  have n1_ := Aside0.mk (S_set2 (Kd.S_below HS.out HXB.out) HX.out (by decide) (.int .i64 a) (.slice Am m.length cm))
  have n2_ := Aside0.mk (blk_far (blk_far (blk_below HQ6.out HXB.out) HBQ.out.2.1 (p := ⟨B, 0, none⟩) (.int .i64 a)) HBQ.out.2.1 (p := ⟨B, 1, none⟩) (.slice Am m.length cm))
  have n3_ := Aside0.mk (((HI6.out.below HXB.out).kept ((KeepBut.refl _ B none).set_ 0 (.int .i64 a)) HBQ.out.1 HBQ.out.2.2.2).kept ((KeepBut.refl _ B none).set_ 1 (.slice Am m.length cm)) HBQ.out.1 HBQ.out.2.2.2)
  have n4_ := Aside0.mk (((below_step HB6.out HXB.out).setCell (p := ⟨B, 0, none⟩) HBQ.out.2.2.1 (.int .i64 a)).setCell (p := ⟨B, 1, none⟩) HBQ.out.2.2.1 (.slice Am m.length cm))
  have n5_ := Aside0.mk (blk_put (cs' := #[.int .i64 a, .slice Am m.length cm]) (blk_put (cs' := #[.int .i64 a, .slice none 0 0]) HX.out 0 (.int .i64 a) rfl) 1 (.slice Am m.length cm) rfl)
  clear HS HQ6 HI6 HB6 HX HXB HXN hc0 hc1 hf0 hf1
  generalize (w7.setCell ⟨B, 0, none⟩ (.int .i64 a)).setCell ⟨B, 1, none⟩ (.slice Am m.length cm) = w8 at n1_ n2_ n3_ n4_ n5_ ⊢
  have HS8 := n1_
  have HQ8 := n2_
  have HI8 := n3_
  have HB8 := n4_
  have HX8 := n5_
  clear n1_ n2_ n3_ n4_ n5_
  have HTK : Aside0 ((r1, r2) = if r ≠ 0 ∨ bad = true ∨ n ≠ (m.length : Int) then (z24, 2) else if mayB a m = 0 ∧ encB a m = l0 then (⟨a, m⟩, 0) else (z24, 2)) := ⟨by
    rw [← HH.out]
    unfold takeB
    rw [← HL2.out, HQA.out, ← HN.out, ← HA.out, ← HBAD.out]⟩
  by_cases hr : r ≠ 0
  · have b1 : (r != 0) = true := bne_iff_ne.mpr hr
    have HNO := Aside0.mk (show r1 = z24 ∧ r2 = 2 by have h := HTK.out; rw [if_pos (.inl hr)] at h; exact Prod.mk.inj h)
    clear hr
    have hq0 := blk_cell HQ8.out 0
    have hq1 := blk_cell HQ8.out 1
    have hf0 := blk_frozen HQ8.out 0
    have hf1 := blk_frozen HQ8.out 1
    go_wp2_with fail
    have HQ9 := blk_put (cs' := #[.int .i64 0, .slice none 0 0]) (blk_put (cs' := #[.int .i64 0, .slice none 0 0]) HQ8.out 0 (.int .i64 0) rfl) 1 (.slice none 0 0) rfl
    refine bodyPost_ret (results_ct rfl _ _ Q 24 _ (0, 0) _ rfl HQ9 Try.underlying24 rfl (by kernel_rfl)) rfl ?_
    obtain ⟨rfl, rfl⟩ := HNO.out
    exact ⟨.slice none 0 0, rfl, Kd.S_nil _ _ _ _ _, (HB8.out.setCell (p := ⟨Q, 0, none⟩) HWQ.out _).setCell (p := ⟨Q, 1, none⟩) HWQ.out _⟩
  have b1 : (r != 0) = false := bne_eq_false_iff_eq.mpr (by simpa using hr)
  have HRZ := Aside0.mk (show r = 0 by simpa using hr)
  clear hr
  go_wp2_with fail
  refine (bad_calls _ w8 g l2 bad HI8.out).mono ?_
  rintro e w9 ⟨rfl, rfl⟩
  cases bad with
  | true =>
    have HNO := Aside0.mk (show r1 = z24 ∧ r2 = 2 by have h := HTK.out; rw [if_pos (.inr (.inl rfl))] at h; exact Prod.mk.inj h)
    have hq0 := blk_cell HQ8.out 0
    have hq1 := blk_cell HQ8.out 1
    have hf0 := blk_frozen HQ8.out 0
    have hf1 := blk_frozen HQ8.out 1
    go_wp2_with fail
    have HQ9 := blk_put (cs' := #[.int .i64 0, .slice none 0 0]) (blk_put (cs' := #[.int .i64 0, .slice none 0 0]) HQ8.out 0 (.int .i64 0) rfl) 1 (.slice none 0 0) rfl
    refine bodyPost_ret (results_ct rfl _ _ Q 24 _ (0, 0) _ rfl HQ9 Try.underlying24 rfl (by kernel_rfl)) rfl ?_
    obtain ⟨rfl, rfl⟩ := HNO.out
    exact ⟨.slice none 0 0, rfl, Kd.S_nil _ _ _ _ _, (HB8.out.setCell (p := ⟨Q, 0, none⟩) HWQ.out _).setCell (p := ⟨Q, 1, none⟩) HWQ.out _⟩
  | false =>
  by_cases hn : n ≠ (m.length : Int)
  · have b2 : (n != (m.length : Int)) = true := bne_iff_ne.mpr hn
    have HNO := Aside0.mk (show r1 = z24 ∧ r2 = 2 by have h := HTK.out; rw [if_pos (.inr (.inr hn))] at h; exact Prod.mk.inj h)
    clear hn
    have hq0 := blk_cell HQ8.out 0
    have hq1 := blk_cell HQ8.out 1
    have hf0 := blk_frozen HQ8.out 0
    have hf1 := blk_frozen HQ8.out 1
    go_wp2_with fail
    have HQ9 := blk_put (cs' := #[.int .i64 0, .slice none 0 0]) (blk_put (cs' := #[.int .i64 0, .slice none 0 0]) HQ8.out 0 (.int .i64 0) rfl) 1 (.slice none 0 0) rfl
    refine bodyPost_ret (results_ct rfl _ _ Q 24 _ (0, 0) _ rfl HQ9 Try.underlying24 rfl (by kernel_rfl)) rfl ?_
    obtain ⟨rfl, rfl⟩ := HNO.out
    exact ⟨.slice none 0 0, rfl, Kd.S_nil _ _ _ _ _, (HB8.out.setCell (p := ⟨Q, 0, none⟩) HWQ.out _).setCell (p := ⟨Q, 1, none⟩) HWQ.out _⟩
  have b2 : (n != (m.length : Int)) = false := bne_eq_false_iff_eq.mpr (by simpa using hn)
  have HTK2 : Aside0 ((r1, r2) = if mayB a m = 0 ∧ encB a m = l0 then (⟨a, m⟩, 0) else (z24, 2)) := ⟨HTK.out.trans (if_neg (by rw [HRZ.out]; simp only [ne_eq, not_true_eq_false, Bool.false_eq_true, false_or, or_false]; exact hn))⟩
  clear hn HTK
  have hc0 := blk_cell HX8.out 0
  have hc1 := blk_cell HX8.out 1
  obtain ⟨-, hcl, hC⟩ := Kd.S_reads' HS8.out
  have HOK := Aside0.mk (takeAll_ok HBY2.out (by rw [HQA.out, HRZ.out] : takeAll (l2.length + 1) l2 [] = (m, 0))).1
  obtain ⟨⟨p, q⟩, hpq⟩ : ∃ z, z = (if mayB a m = 0 then (encB a m, 0) else (([] : List Int), mayB a m)) := ⟨_, rfl⟩
  have hput : batch_PutG.f a m = some (p, q) := by rw [hpq]; exact if_pos (List.all_eq_true.2 fun x hx => (HOK.out x hx).fit.1)
  have HPQ := Aside0.mk hpq
  have HPT := Aside0.mk (batch_PutG.calls a Am cm m p q w8 hC hcl hput)
  clear hC hcl hput hpq
  go_wp2_with fail
  refine HPT.out.mono ?_
  rintro e w9 ⟨vp, rfl, hR, hb⟩
  have n1_ := Aside0.mk (Kd.S_below HS8.out hb)
  have n2_ := Aside0.mk (blk_below HQ8.out hb)
  have n4_ := Aside0.mk (below_step HB8.out hb)
  have n5_ := Aside0.mk (blk_below HX8.out hb)
  obtain ⟨Ap, cp, ep⟩ := Kd.R_slice hR
  subst ep
  obtain ⟨-, hcp, hCp⟩ := Kd.R_reads' hR
  have HCP := Aside0.mk hcp
  have HRP := Aside0.mk hCp
  clear HS8 HQ8 HB8 HX8 HI8 HPT hb hR hcp hCp hc0 hc1
  have HS8 := n1_
  have HQ8 := n2_
  have HB8 := n4_
  have HX8 := n5_
  clear n1_ n2_ n4_ n5_
  by_cases hq0 : q ≠ 0
  · have b3 : (q != 0) = true := bne_iff_ne.mpr hq0
    have HNO := Aside0.mk (show r1 = z24 ∧ r2 = 2 by
      have h := HTK2.out
      have hm : ¬ mayB a m = 0 := fun h0 => by have h2 := HPQ.out; rw [if_pos h0] at h2; exact hq0 (Prod.mk.inj h2).2
      rw [if_neg (fun h2 => hm h2.1)] at h
      exact Prod.mk.inj h)
    clear hq0
    have hq0 := blk_cell HQ8.out 0
    have hq1 := blk_cell HQ8.out 1
    have hf0 := blk_frozen HQ8.out 0
    have hf1 := blk_frozen HQ8.out 1
    go_wp2_with fail
    have HQ9 := blk_put (cs' := #[.int .i64 0, .slice none 0 0]) (blk_put (cs' := #[.int .i64 0, .slice none 0 0]) HQ8.out 0 (.int .i64 0) rfl) 1 (.slice none 0 0) rfl
    refine bodyPost_ret (results_ct rfl _ _ Q 24 _ (0, 0) _ rfl HQ9 Try.underlying24 rfl (by kernel_rfl)) rfl ?_
    obtain ⟨rfl, rfl⟩ := HNO.out
    exact ⟨.slice none 0 0, rfl, Kd.S_nil _ _ _ _ _, (HB8.out.setCell (p := ⟨Q, 0, none⟩) HWQ.out _).setCell (p := ⟨Q, 1, none⟩) HWQ.out _⟩
  have b3 : (q != 0) = false := bne_eq_false_iff_eq.mpr (by simpa using hq0)
  have HMB : Aside0 (mayB a m = 0 ∧ p = encB a m) := ⟨by
    have h2 := HPQ.out
    by_cases h0 : mayB a m = 0
    · rw [if_pos h0] at h2; exact ⟨h0, (Prod.mk.inj h2).1⟩
    · rw [if_neg h0] at h2; have h3 := (Prod.mk.inj h2).2; rw [h3] at hq0; exact absurd h0 (by simpa using hq0)⟩
  clear hq0
  go_wp2_with fail
  refine (equal_calls Ap cp p A0 c0 l0 w9 HRP.out HCP.out (Kd.C_below HR0.out HB8.out) HC0.out (by rw [HMB.out.2]; exact encB_bytes _ _) HBY.out).mono ?_
  rintro e w10 ⟨rfl, rfl⟩
  by_cases hpl : p = l0
  · have b4 : decide (p = l0) = true := decide_eq_true hpl
    have HYES := Aside0.mk (show r1 = ⟨a, m⟩ ∧ r2 = 0 by
      have h := HTK2.out
      rw [if_pos ⟨HMB.out.1, by rw [← HMB.out.2]; exact hpl⟩] at h
      exact Prod.mk.inj h)
    clear hpl
    have hc0 := blk_cell HX8.out 0
    have hc1 := blk_cell HX8.out 1
    have hq0 := blk_cell HQ8.out 0
    have hq1 := blk_cell HQ8.out 1
    have hf0 := blk_frozen HQ8.out 0
    have hf1 := blk_frozen HQ8.out 1
    rw [b4]
    clear b4
    go_wp2_with fail
    have HQ9 := blk_put (cs' := #[.int .i64 a, .slice Am m.length cm]) (blk_put (cs' := #[.int .i64 a, .slice none 0 0]) HQ8.out 0 (.int .i64 a) rfl) 1 (.slice Am m.length cm) rfl
    refine bodyPost_ret (results_ct rfl _ _ Q 24 _ (0, 0) _ rfl HQ9 Try.underlying24 rfl (by kernel_rfl)) rfl ?_
    obtain ⟨rfl, rfl⟩ := HYES.out
    exact ⟨.slice Am m.length cm, rfl, S_set2 HS8.out HQ8.out (by decide) _ _, (HB8.out.setCell (p := ⟨Q, 0, none⟩) HWQ.out _).setCell (p := ⟨Q, 1, none⟩) HWQ.out _⟩
  · have b4 : decide (p = l0) = false := decide_eq_false hpl
    have HNO := Aside0.mk (show r1 = z24 ∧ r2 = 2 by
      have h := HTK2.out
      rw [if_neg (fun h2 => hpl (HMB.out.2.trans h2.2))] at h
      exact Prod.mk.inj h)
    clear hpl
    rw [b4]
    clear b4
    have hq0 := blk_cell HQ8.out 0
    have hq1 := blk_cell HQ8.out 1
    have hf0 := blk_frozen HQ8.out 0
    have hf1 := blk_frozen HQ8.out 1
    go_wp2_with fail
    have HQ9 := blk_put (cs' := #[.int .i64 0, .slice none 0 0]) (blk_put (cs' := #[.int .i64 0, .slice none 0 0]) HQ8.out 0 (.int .i64 0) rfl) 1 (.slice none 0 0) rfl
    refine bodyPost_ret (results_ct rfl _ _ Q 24 _ (0, 0) _ rfl HQ9 Try.underlying24 rfl (by kernel_rfl)) rfl ?_
    obtain ⟨rfl, rfl⟩ := HNO.out
    exact ⟨.slice none 0 0, rfl, Kd.S_nil _ _ _ _ _, (HB8.out.setCell (p := ⟨Q, 0, none⟩) HWQ.out _).setCell (p := ⟨Q, 1, none⟩) HWQ.out _⟩
end Go.Proofs.Ytafeakcajhhkoaa.Prt
namespace Go.Proofs.Ytafeakcajhhkoaa.Prt
open Go.RowKit Go.Proofs.YtafeakcajhhkoaaW.PrintWords Go.Proofs.YtafeakcajhhkoaaW.PrintLast Go.Proofs.YtafeakcajhhkoaaW.PrintMore Go.Proofs.Ytafeakcajhhkoaa.Num Go.Proofs.Ytafeakcajhhkoaa.Nam
set_option linter.unusedVariables false
set_option linter.unusedSimpArgs false

def batch_Take.f (l0 : List Int) : Option (Int × (List (S40)) × Int) := if byteB l0 = true ∧ l0.length ≤ 1000000000000 then some ((takeB l0).1.f0, (takeB l0).1.f1, (takeB l0).2) else none
theorem batch_Take.calls (A0 : Option Addr) (c0 : Nat) (l0 : List Int) (r1 : Int) (r2 : List (S40)) (r3 : Int) (w : World) (hr0 : Kd.C (Kd.int .u8) w A0 l0.length l0) (hc0 : l0.length ≤ c0) (h : batch_Take.f l0 = some (r1, r2, r3)) :
    Calls Try.prog 18 #[.slice A0 l0.length c0] w fun e w' => ∃ v1_ : Value, e = .returned (.tuple #[.agg #[.int .i64 r1, v1_], .int .i64 r3]) ∧ Kd.S k40 40 w' w.heap.size (fun _ => True) v1_ r2 ∧ Below w.heap.size w w' := by
  unfold batch_Take.f at h
  by_cases hc : byteB l0 = true ∧ l0.length ≤ 1000000000000
  · rw [if_pos hc] at h
    have h2 := Option.some.inj h
    simp only [Prod.mk.injEq] at h2
    obtain ⟨rfl, rfl, rfl⟩ := h2
    exact batchTake_calls A0 c0 l0 w hr0 hc0 (byteB_iff.1 hc.1) hc.2 (takeB l0).1 (takeB l0).2 rfl
  · rw [if_neg hc] at h; cases h
end Go.Proofs.Ytafeakcajhhkoaa.Prt
namespace Go.Proofs.Ytafeakcajhhkoaa.Num
open Go.RowKit Go.Proofs.YtafeakcajhhkoaaW.PrintWords Go.Proofs.YtafeakcajhhkoaaW.PrintLast Go.Proofs.YtafeakcajhhkoaaW.PrintMore Go.Proofs.Ytafeakcajhhkoaa.Prt Go.Proofs.Ytafeakcajhhkoaa.Nam
set_option linter.unusedVariables false
set_option linter.unusedSimpArgs false

/-- The reference's reader, an event's parts in block E; what the call w0 found is kept, but for the reader. -/
structure Tr (w0 w : World) (P : Nat → Prop) (g E : Nat) (l : List Int) (bad : Bool) (s t : ByteArray) (v2 : Value) (tags : List ByteArray) (v3 : Value) (fl : List S50) : Prop where
  rd : Rd 59 P w g l bad
  hE : w.heap[E]? = some (.cells #[.string s, .string t, v2, v3] 40 (0, 0))
  r2 : Kd.string.R 9 w w0.heap.size (fun _ => True) v2 tags
  r3 : k50.R 50 w w0.heap.size (fun _ => True) v3 fl
  keep : KeepBut w0 w g none
  below : Below g w0 w
  gN : g < w0.heap.size
  NE : w0.heap.size ≤ E
  PN : ∀ k, P k → k < w0.heap.size
  by_ : isBytes l
section
variable {w0 w w1 : World} {P : Nat → Prop} {g E : Nat} {l l' : List Int} {bad bad' : Bool} {s t : ByteArray} {v2 v3 : Value} {tags : List ByteArray} {fl : List S50}
theorem Tr.read (h : Tr w0 w P g E l bad s t v2 tags v3 fl) (hr : Rd 59 P w1 g l' bad') (hb : Below g w w1) (hk : KeepBut w w1 g none) (hy : isBytes l') : Tr w0 w1 P g E l' bad' s t v2 tags v3 fl :=
  ⟨hr, hk.blk h.hE (by have := h.gN; have := h.NE; omega) (by simp), R_off' h.r2 h.gN hk, R_off' h.r3 h.gN hk, h.keep.trans hk (.inl rfl), h.below.trans hb, h.gN, h.NE, h.PN, hy⟩
theorem Tr.up (h : Tr w0 w P g E l bad s t v2 tags v3 fl) (hb : Below w.heap.size w w1) : Tr w0 w1 P g E l bad s t v2 tags v3 fl :=
  ⟨h.rd.below hb, blk_below h.hE hb, Kd.R_below h.r2 hb, Kd.R_below h.r3 hb, h.keep.trans (KeepBut.of_below hb g none) (.inl rfl), h.below.trans (hb.mono (Nat.le_of_lt h.rd.lt)), h.gN, h.NE, h.PN, h.by_⟩
theorem Tr.alloc (h : Tr w0 w P g E l bad s t v2 tags v3 fl) (o : Obj) : Tr w0 (w.alloc o) P g E l bad s t v2 tags v3 fl := h.up (below_alloc (Below.refl _ _) o)
theorem Tr.drew (h : Tr w0 w P g E l bad s t v2 tags v3 fl) : Tr w0 w.drew P g E l bad s t v2 tags v3 fl := h.up (below_drew (Below.refl _ _))
theorem Tr.notP (h : Tr w0 w P g E l bad s t v2 tags v3 fl) : ¬ P E := fun hp => by have := h.PN E hp; have := h.NE; omega
theorem Tr.set1 (h : Tr w0 w P g E l bad s t v2 tags v3 fl) (t' : ByteArray) : Tr w0 (w.setCell ⟨E, 1, none⟩ (.string t')) P g E l bad s t' v2 tags v3 fl :=
  ⟨h.rd.kept ((KeepBut.refl w E none).set_ 1 _) (by have := h.gN; have := h.NE; omega) h.notP, by simpa using blk_set h.hE 1 (.string t'), R_set h.r2 h.hE (by decide) 1 _, R_set h.r3 h.hE (by decide) 1 _, keep_far h.keep h.NE _, h.below.setCell (p := ⟨E, 1, none⟩) (Nat.le_trans (Nat.le_of_lt h.gN) h.NE) _, h.gN, h.NE, h.PN, h.by_⟩
theorem Tr.side (h : Tr w0 w P g E l bad s t v2 tags v3 fl) {B : Nat} (hB : w0.heap.size ≤ B) (h1 : B ≠ E) (h3 : some B ≠ v2.ownBlock) (h4 : some B ≠ v3.ownBlock) (i : Nat) (u : Value) : Tr w0 (w.setCell ⟨B, i, none⟩ u) P g E l bad s t v2 tags v3 fl :=
  ⟨h.rd.kept ((KeepBut.refl w B none).set_ i _) (by have := h.gN; omega) (fun hp => by have := h.PN B hp; omega), blk_far h.hE (Ne.symm h1) _, Kd.R_mono (Kd.R_far (p := ⟨B, i, none⟩) (Kd.R_far1 h.r2 rfl h3) (fun k hk => hk.2) u) (fun _ _ => trivial), Kd.R_mono (Kd.R_far (p := ⟨B, i, none⟩) (Kd.R_far1 h.r3 rfl h4) (fun k hk => hk.2) u) (fun _ _ => trivial),
    keep_far h.keep hB _, h.below.setCell (p := ⟨B, i, none⟩) (Nat.le_trans (Nat.le_of_lt h.gN) hB) _, h.gN, h.NE, h.PN, h.by_⟩
/-- A tag behind the others, and stored. -/
theorem Tr.push2 (h : Tr w0 w P g E l bad s t v2 tags v3 fl) {v : Value} {x : ByteArray} (hr : Kd.string.R 9 w1 w0.heap.size (fun _ => True) v (tags ++ [x])) (hb : Below w0.heap.size w w1) (hg : w.grownBy w1 v2.ownBlock) :
    Tr w0 (w1.setCell ⟨E, 2, none⟩ v) P g E l bad s t v (tags ++ [x]) v3 fl := by
  have base := Kd.R_base h.r2
  have hE1 : w1.heap[E]? = some (.cells #[.string s, .string t, v2, v3] 40 (0, 0)) := blk_grown h.hE hg (Kd.R_ne h.r2 h.hE (by decide))
  have r31 : k50.R 50 w1 w0.heap.size (fun _ => True) v3 fl := Kd.R_mono (Kd.R_grown (Kd.R_apart' h.r3 (Kd.R_typed h.r2) (by decide)) hg (fun k hk => hk.2)) (fun _ _ => trivial)
  have rd1 := h.rd.grown hg (ne_base base h.gN) (fun k hk => ne_base base (h.PN k hk))
  exact ⟨rd1.kept ((KeepBut.refl w1 E none).set_ 2 _) (by have := h.gN; have := h.NE; omega) h.notP, by simpa using blk_set hE1 2 v, R_set hr hE1 (by decide) 2 _, R_set r31 hE1 (by decide) 2 _,
    keep_far (keep_grown h.keep hg base) h.NE _, (h.below.trans (hb.mono (Nat.le_of_lt h.gN))).setCell (p := ⟨E, 2, none⟩) (Nat.le_trans (Nat.le_of_lt h.gN) h.NE) _, h.gN, h.NE, h.PN, h.by_⟩
/-- A field behind the others, and stored. -/
theorem Tr.push3 (h : Tr w0 w P g E l bad s t v2 tags v3 fl) {v : Value} {x : S50} (hr : k50.R 50 w1 w0.heap.size (fun _ => True) v (fl ++ [x])) (hb : Below w0.heap.size w w1) (hg : w.grownBy w1 v3.ownBlock) :
    Tr w0 (w1.setCell ⟨E, 3, none⟩ v) P g E l bad s t v2 tags v (fl ++ [x]) := by
  have base := Kd.R_base h.r3
  have hE1 : w1.heap[E]? = some (.cells #[.string s, .string t, v2, v3] 40 (0, 0)) := blk_grown h.hE hg (Kd.R_ne h.r3 h.hE (by decide))
  have r21 : Kd.string.R 9 w1 w0.heap.size (fun _ => True) v2 tags := Kd.R_mono (Kd.R_grown (Kd.R_apart' h.r2 (Kd.R_typed h.r3) (by decide)) hg (fun k hk => hk.2)) (fun _ _ => trivial)
  have rd1 := h.rd.grown hg (ne_base base h.gN) (fun k hk => ne_base base (h.PN k hk))
  exact ⟨rd1.kept ((KeepBut.refl w1 E none).set_ 3 _) (by have := h.gN; have := h.NE; omega) h.notP, by simpa using blk_set hE1 3 v, R_set r21 hE1 (by decide) 3 _, R_set hr hE1 (by decide) 3 _,
    keep_far (keep_grown h.keep hg base) h.NE _, (h.below.trans (hb.mono (Nat.le_of_lt h.gN))).setCell (p := ⟨E, 3, none⟩) (Nat.le_trans (Nat.le_of_lt h.gN) h.NE) _, h.gN, h.NE, h.PN, h.by_⟩
end
/-- What a call leaves that was handed the reference's reader. -/
def OutR (w w' : World) (P : Nat → Prop) (g : Nat) (l : List Int) (b : Bool) : Prop := Rd 59 P w' g l b ∧ Below g w w' ∧ KeepBut w w' g none
theorem OutR.of_Tr {w w0 w' : World} {P : Nat → Prop} {g E : Nat} {l : List Int} {bad : Bool} {s t : ByteArray} {v2 v3 : Value} {tags : List ByteArray} {fl : List S50} (h : Tr w0 w' P g E l bad s t v2 tags v3 fl) (hB : Below w.heap.size w w0) (hg : g < w.heap.size) : OutR w w' P g l bad :=
  ⟨h.rd, (hB.mono (Nat.le_of_lt hg)).trans h.below, (KeepBut.of_below hB g none).trans h.keep (.inl rfl)⟩
theorem OutR.set {w w' : World} {P : Nat → Prop} {g : Nat} {l : List Int} {bad : Bool} (h : OutR w w' P g l bad) (hg : g < w.heap.size) (hP : ∀ k, P k → k < w.heap.size) {Q : Nat} (hQ : w.heap.size ≤ Q) (i : Nat) (u : Value) : OutR w (w'.setCell ⟨Q, i, none⟩ u) P g l bad :=
  ⟨h.1.kept ((KeepBut.refl w' Q none).set_ i _) (by omega) (fun hp => by have := hP Q hp; omega), h.2.1.setCell (p := ⟨Q, i, none⟩) (by show g ≤ Q; omega) _, keep_far h.2.2 hQ _⟩
end Go.Proofs.Ytafeakcajhhkoaa.Num
namespace Go.Proofs.Ytafeakcajhhkoaa.Num
open Go.RowKit Go.Proofs.YtafeakcajhhkoaaW.PrintWords Go.Proofs.YtafeakcajhhkoaaW.PrintLast Go.Proofs.YtafeakcajhhkoaaW.PrintMore Go.Proofs.Ytafeakcajhhkoaa.Prt Go.Proofs.Ytafeakcajhhkoaa.Nam
set_option linter.unusedVariables false
set_option linter.unusedSimpArgs false

theorem badT_true (l : List Int) : badT l true = true := by unfold badT; simp
theorem badOf_true (l : List Int) : badOf l true = true := by unfold badOf; simp
theorem takeTs_bad {l : List Int} {b : Bool} {i : Nat} (h : (takeTs i l b).2.2 = true) : ∀ k, (takeTs (i + k) l b).2.2 = true
  | 0 => h
  | k + 1 => by
    show badT (takeTs (i + k) l b).2.1 (takeTs (i + k) l b).2.2 = true
    rw [takeTs_bad h k, badT_true]
theorem takeFs_bad {l : List Int} {b : Bool} {i : Nat} (h : (takeFs i l b).2.2 = true) : ∀ k, (takeFs (i + k) l b).2.2 = true
  | 0 => h
  | k + 1 => by
    show badOf (aftT (takeFs (i + k) l b).2.1) (badT (takeFs (i + k) l b).2.1 (takeFs (i + k) l b).2.2) = true
    rw [takeFs_bad h k, badT_true, badOf_true]
/-- An event that can't be taken. -/
def noE (l : List Int) : Prop := ∃ l2 b2, takeE l false = (z40, 2, l2, b2)
section
variable {l l4 l6 : List Int} {b4 b6 : Bool} {tags : List ByteArray} {fl : List S50} {j j2 : Nat}
theorem noE_tags (hn : ¬ (numOf (aftT (aftT l)) < 0 ∨ 6 < numOf (aftT (aftT l)))) (h : (takeTs (numOf (aftT (aftT l))).toNat (aft (aftT (aftT l))) (badOf (aftT (aftT l)) (badT (aftT l) (badT l false)))).2.2 = true) : noE l := by
  obtain ⟨⟨a, l4, b4⟩, hq⟩ : ∃ q, takeTs (numOf (aftT (aftT l))).toNat (aft (aftT (aftT l))) (badOf (aftT (aftT l)) (badT (aftT l) (badT l false))) = q := ⟨_, rfl⟩
  rw [hq] at h
  simp only at h
  subst h
  by_cases hm : numOf l4 < 0 ∨ 4 < numOf l4
  · exact ⟨_, _, takeE_m hn hq hm⟩
  · have hb := takeFs_bad (l := aft l4) (b := badOf l4 true) (i := 0) (badOf_true l4) (numOf l4).toNat
    rw [Nat.zero_add] at hb
    have hr := takeE_r hn hq hm rfl
    simp only at hr
    rw [if_pos (.inl hb)] at hr
    exact ⟨_, _, hr⟩
theorem refTake_no (hn : ¬ (numOf (aftT (aftT l)) < 0 ∨ 6 < numOf (aftT (aftT l))))
    (hA : (∀ i, i < j → (takeTs i (aft (aftT (aftT l))) (badOf (aftT (aftT l)) (badT (aftT l) (badT l false)))).2.2 = false ∧ (i : Int) < numOf (aftT (aftT l))) ∧ j ≤ 7 ∧ ¬ ((j : Int) < numOf (aftT (aftT l)) ∧ j ≤ 6 ∧ (takeTs j (aft (aftT (aftT l))) (badOf (aftT (aftT l)) (badT (aftT l) (badT l false)))).2.2 = false))
    (hq : takeTs j (aft (aftT (aftT l))) (badOf (aftT (aftT l)) (badT (aftT l) (badT l false))) = (tags, l4, b4))
    (hA2 : (∀ i, i < j2 → (takeFs i (aft l4) (badOf l4 b4)).2.2 = false ∧ (i : Int) < numOf l4) ∧ j2 ≤ 5 ∧ ¬ ((j2 : Int) < numOf l4 ∧ j2 ≤ 4 ∧ (takeFs j2 (aft l4) (badOf l4 b4)).2.2 = false))
    (hq2 : takeFs j2 (aft l4) (badOf l4 b4) = (fl, l6, b6)) :
    (numOf l4 < 0 ∨ b6 = true ∨ mayE (textOf l) (textOf (aftT l)) tags fl ≠ 0 → noE l) ∧ (¬ numOf l4 < 0 → b6 = false → mayE (textOf l) (textOf (aftT l)) tags fl = 0 → takeE l false = (⟨textOf l, textOf (aftT l), tags, fl⟩, 0, l6, false)) := by
  obtain ⟨a1, a2, a3⟩ := hA
  obtain ⟨c1, c2, c3⟩ := hA2
  have hjn : (j : Int) ≤ numOf (aftT (aftT l)) := by
    rcases Nat.eq_zero_or_pos j with h | h
    · omega
    · have := (a1 (j - 1) (by omega)).2; omega
  rw [hq] at a3
  rw [hq2] at c3
  simp only at a3 c3
  cases b4 with
  | true =>
    have hb : (takeTs (numOf (aftT (aftT l))).toNat (aft (aftT (aftT l))) (badOf (aftT (aftT l)) (badT (aftT l) (badT l false)))).2.2 = true := by
      have h := takeTs_bad (i := j) (l := aft (aftT (aftT l))) (b := badOf (aftT (aftT l)) (badT (aftT l) (badT l false))) (by rw [hq]) ((numOf (aftT (aftT l))).toNat - j)
      rwa [show j + ((numOf (aftT (aftT l))).toNat - j) = (numOf (aftT (aftT l))).toNat by omega] at h
    refine ⟨fun _ => noE_tags hn hb, fun _ h6 _ => ?_⟩
    have h := takeFs_bad (l := aft l4) (b := badOf l4 true) (i := 0) (badOf_true l4) j2
    rw [Nat.zero_add, hq2] at h
    simp only at h
    rw [h] at h6; cases h6
  | false =>
    have hj : (numOf (aftT (aftT l))).toNat = j := by
      rcases Nat.lt_or_ge j (numOf (aftT (aftT l))).toNat with h | h
      · exact absurd ⟨by omega, by omega, rfl⟩ a3
      · omega
    have hq' := hq
    rw [← hj] at hq'
    have hj2 : fl.length = j2 := by have := takeFs_len (aft l4) (badOf l4 false) j2; rw [hq2] at this; exact this
    by_cases hm : numOf l4 < 0 ∨ 4 < numOf l4
    · refine ⟨fun _ => ⟨_, _, takeE_m hn hq' hm⟩, fun h0 h6 h7 => ?_⟩
      exfalso
      have := ((okE_iff _ _ _ _).1 h7).hf4
      rcases hm with hm | hm
      · exact h0 hm
      · exact c3 ⟨by omega, by omega, h6⟩
    · have hm0 : 0 ≤ numOf l4 := by omega
      have hjm : (j2 : Int) ≤ numOf l4 := by
        rcases Nat.eq_zero_or_pos j2 with h | h
        · omega
        · have := (c1 (j2 - 1) (by omega)).2; omega
      cases b6 with
      | true =>
        have hb : (takeFs (numOf l4).toNat (aft l4) (badOf l4 false)).2.2 = true := by
          have h := takeFs_bad (i := j2) (l := aft l4) (b := badOf l4 false) (by rw [hq2]) ((numOf l4).toNat - j2)
          rwa [show j2 + ((numOf l4).toNat - j2) = (numOf l4).toNat by omega] at h
        refine ⟨fun _ => ?_, fun _ h6 _ => by cases h6⟩
        have hr := takeE_r hn hq' hm rfl
        simp only at hr
        rw [if_pos (.inl hb)] at hr
        exact ⟨_, _, hr⟩
      | false =>
        have hj3 : (numOf l4).toNat = j2 := by
          rcases Nat.lt_or_ge j2 (numOf l4).toNat with h | h
          · exact absurd ⟨by omega, by omega, rfl⟩ c3
          · omega
        have hq3 : takeFs (numOf l4).toNat (aft l4) (badOf l4 false) = (fl, l6, false) := by rw [hj3]; exact hq2
        have hr := takeE_r hn hq' hm hq3
        simp only at hr
        refine ⟨fun h => ?_, fun _ _ h7 => ?_⟩
        · rw [if_pos (by rcases h with h | h | h; (· exact absurd h (by omega)); (· cases h); exact .inr h)] at hr
          exact ⟨_, _, hr⟩
        · rw [if_neg (by rintro (h | h); (· cases h); exact h h7)] at hr
          exact hr
end
end Go.Proofs.Ytafeakcajhhkoaa.Num
namespace Go.Proofs.Ytafeakcajhhkoaa.Num
open Go.RowKit Go.Proofs.YtafeakcajhhkoaaW.PrintWords Go.Proofs.YtafeakcajhhkoaaW.PrintLast Go.Proofs.YtafeakcajhhkoaaW.PrintMore Go.Proofs.Ytafeakcajhhkoaa.Prt Go.Proofs.Ytafeakcajhhkoaa.Nam
set_option linter.unusedVariables false
set_option linter.unusedSimpArgs false

theorem ref_start (w0 w1 w2 : World) (P : Nat → Prop) (g E : Nat) (l : List Int) (bad : Bool) (s : ByteArray) (hI : Rd 59 P w1 g l bad) (hb : Below g w0 w1) (hk : KeepBut w0 w1 g none) (gN : g < w0.heap.size) (PN : ∀ k, P k → k < w0.heap.size) (hy : isBytes l)
    (hE : E = w1.heap.size) (h2 : w2.heap[E]? = some (.cells #[.string ⟨#[]⟩, .string ⟨#[]⟩, .slice none 0 0, .slice none 0 0] 40 (0, 0))) (hb2 : Below w1.heap.size w1 w2) :
    Tr w0 ((((w2.setCell ⟨E, 0, none⟩ (.string s)).setCell ⟨E, 1, none⟩ (.string ⟨#[]⟩)).setCell ⟨E, 2, none⟩ (.slice none 0 0)).setCell ⟨E, 3, none⟩ (.slice none 0 0)) P g E l bad s ⟨#[]⟩ (.slice none 0 0) [] (.slice none 0 0) [] := by
  have hge : w0.heap.size ≤ E := by rw [hE]; exact hk.1
  have hgE : g ≠ E := by omega
  have hPE : ¬ P E := fun hp => by have := PN E hp; omega
  have hlt := hI.lt
  have k2 : ∀ (w : World) (i : Nat) (v : Value), KeepBut w (w.setCell ⟨E, i, none⟩ v) E none := fun w i v => (KeepBut.refl w E none).set_ i v
  refine ⟨((((hI.below hb2).kept (k2 _ 0 _) hgE hPE).kept (k2 _ 1 _) hgE hPE).kept (k2 _ 2 _) hgE hPE).kept (k2 _ 3 _) hgE hPE, ?_, Kd.R_nil _ _ _ _ _, Kd.R_nil _ _ _ _ _, ?_, ?_, gN, hge, PN, hy⟩
  · simpa using blk_set (blk_set (blk_set (blk_set h2 0 (.string s)) 1 (.string ⟨#[]⟩)) 2 (.slice none 0 0)) 3 (.slice none 0 0)
  · exact keep_far (keep_far (keep_far (keep_far (hk.trans (KeepBut.of_below hb2 g none) (.inl rfl)) hge _) hge _) hge _) hge _
  · have h0 : Below g w0 w2 := hb.trans (hb2.mono (by omega))
    have q : g ≤ E := by omega
    exact (((h0.setCell (p := ⟨E, 0, none⟩) q _).setCell (p := ⟨E, 1, none⟩) q _).setCell (p := ⟨E, 2, none⟩) q _).setCell (p := ⟨E, 3, none⟩) q _

theorem Rd.isBad {T : Nat} {P : Nat → Prop} {W : World} {g : Nat} {l : List Int} {bad : Bool} (h : Rd T P W g l bad) : W.cell? ⟨g, 1, none⟩ = some (.bool bad) := by
  obtain ⟨A, c, h1, _⟩ := h
  exact (blk_cell h1 1).trans rfl
theorem takeTs_succ {l3 : List Int} {b3 : Bool} {i : Nat} {tags : List ByteArray} {li : List Int} {bi : Bool} (h : takeTs i l3 b3 = (tags, li, bi)) : takeTs (i + 1) l3 b3 = (tags ++ [textOf li], aftT li, badT li bi) := by simp only [takeTs, h]
theorem takeFs_succ {l3 : List Int} {b3 : Bool} {i : Nat} {fl : List S50} {li : List Int} {bi : Bool} (h : takeFs i l3 b3 = (fl, li, bi)) : takeFs (i + 1) l3 b3 = (fl ++ [⟨textOf li, numOf (aftT li)⟩], aft (aftT li), badOf (aftT li) (badT li bi)) := by simp only [takeFs, h]
def D33.T7 : Bool × List (List Nat × List Nat) := (true, [([], []), ([0], [0]), ([], []), ([2], [2]), ([3], [3]), ([1, 4, 3], [1, 4]), ([0, 1, 2, 3, 4, 5], []), ([6, 5, 5, 0, 1, 2, 3, 4, 5], [5, 6])])
def D33.B7 : List Nat := [0, 1, 0, 4, 12, 31, 63, 127]
theorem D33.tab7 : rtab .any (opsOf Try.f33 7) = D33.T7 := by kernel_rfl
theorem D33.bits7 : waitsOk D33.T7.2 D33.B7 = true := by kernel_rfl
/-- What a call of the reference's Take leaves. -/
def RefPost (P : Nat → Prop) (w : World) (g : Nat) (x : S40) (c : Int) (l' : List Int) (b' : Bool) (e : Ending) (w' : World) : Prop :=
  ∃ v2 v3 l2 b2, e = .returned (.tuple #[.agg #[.string x.f0, .string x.f1, v2, v3], .int .i64 c]) ∧ Kd.string.R 9 w' w.heap.size (fun _ => True) v2 x.f2 ∧ k50.R 50 w' w.heap.size (fun _ => True) v3 x.f3 ∧
      Rd 59 P w' g l2 b2 ∧ isBytes l2 ∧ (c = 0 → l2 = l' ∧ b2 = b') ∧ Below g w w' ∧ KeepBut w w' g none
set_option maxHeartbeats 4000000 in
theorem refTake_walk (P : Nat → Prop) (w : World) (g : Nat) (l : List Int) (hI : Rd 59 P w g l false) (hb : isBytes l) (hP : ∀ k, P k → k < w.heap.size) (x : S40) (c : Int) (l' : List Int) (b' : Bool) (hx : takeE l false = (x, c, l', b')) :
    Calls Try.prog 33 #[.pointer (some ⟨g, 0, none⟩)] w fun e w' => RefPost P w g x c l' b' e w' := by
  have HI := Aside0.mk hI
  have HBY := Aside0.mk hb
  have HP := Aside0.mk hP
  have HSL := Aside0.mk hI.len
  have HSZ := Aside0.mk (Nat.le_trans (textOf_size l hb) hI.len)
  have HSY := Aside0.mk (Nat.le_trans (textOf_size (aftT l) (aftT_bytes hb)) (Nat.le_trans (aftT_len l hb) hI.len))
  have HX := Aside0.mk hx
  have HGW := Aside0.mk hI.lt
  clear hI hb hP hx
  have hu40 := Try.underlying40
  have hu50 := Try.underlying50
  go_enter Try.func33, Try.ntmps33
  go_wp2_with fail
  obtain ⟨w0, hw0⟩ : ∃ w0, w0 = w.alloc (.cells #[.string ⟨#[]⟩, .string ⟨#[]⟩, .slice none 0 0, .slice none 0 0] 40 (0, 0)) := ⟨_, rfl⟩
  have HZ := Aside0.mk (show w0.heap.size = w.heap.size + 1 by rw [hw0]; simp only [World.size_alloc])
  have HQ := Aside0.mk (show w0.heap[w.heap.size]? = some (.cells #[.string ⟨#[]⟩, .string ⟨#[]⟩, .slice none 0 0, .slice none 0 0] 40 (0, 0)) by rw [hw0]; exact heap_alloc_new w _)
  have HB0 := Aside0.mk (show Below w.heap.size w w0 by rw [hw0]; exact below_alloc (Below.refl _ _) _)
  rw [← hw0]
  have HI0 := Aside0.mk (HI.out.below HB0.out)
  have HP0 := Aside0.mk (show ∀ k, P k → k < w0.heap.size from fun k hk => by have := HP.out k hk; rw [HZ.out]; omega)
  have HG0 := Aside0.mk (show g < w0.heap.size by rw [HZ.out]; have := HGW.out; omega)
  clear hw0 HI
  obtain ⟨Q, hQ⟩ : ∃ Q, Q = w.heap.size := ⟨_, rfl⟩
  rw [← hQ] at HQ ⊢
  have HQN := Aside0.mk (show Q < w0.heap.size ∧ w.heap.size ≤ Q by rw [HZ.out]; omega)
  clear hQ
  refine (refText_calls P w0 g l false HI0.out HBY.out).mono ?_
  rintro e w1 ⟨rfl, hI, hb, hk⟩
  obtain ⟨s, hs⟩ : ∃ s, s = textOf l := ⟨_, rfl⟩
  rw [← hs]
  have HS := Aside0.mk hs
  have HI1 := Aside0.mk hI
  have HB1 := Aside0.mk hb
  have HK1 := Aside0.mk hk
  have HBY1 := Aside0.mk (aftT_bytes HBY.out)
  clear hs hI hb hk HI0
  go_wp2_with (first | ((with_reducible refine gate_dst (N := 4) rfl ?_); refine box_event ?hg (N := 4) ?hd (cs := #[.string (⟨#[]⟩ : ByteArray), .string (⟨#[]⟩ : ByteArray), .slice none 0 0, .slice none 0 0]) (t := 40) ?hr ?_; (case hd => rfl); (case hg => rfl); (case hr => first | (go_simp; done) | (go_simp; rfl)); intro E hg w2 hbox hb; have HE := Aside0.mk hg; have HBX := Aside0.mk hbox; have HB2 := Aside0.mk hb; clear hg hbox hb; have hb0 := blk_cell HBX.out 0; have hb1 := blk_cell HBX.out 1; have hb2 := blk_cell HBX.out 2; have hb3 := blk_cell HBX.out 3; have hf0 := blk_frozen HBX.out 0; have hf1 := blk_frozen HBX.out 1; have hf2 := blk_frozen HBX.out 2; have hf3 := blk_frozen HBX.out 3))
  have HT3 := Aside0.mk (ref_start w0 w1 w2 P g E (aftT l) (badT l false) s HI1.out HB1.out HK1.out HG0.out HP0.out HBY1.out HE.out HBX.out HB2.out)
  clear hb0 hb1 hb2 hb3 hf0 hf1 hf2 hf3 HI1 HB1 HK1 HBX HB2 HE
  generalize (((w2.setCell ⟨E, 0, none⟩ (.string s)).setCell ⟨E, 1, none⟩ (.string ⟨#[]⟩)).setCell ⟨E, 2, none⟩ (.slice none 0 0)).setCell ⟨E, 3, none⟩ (.slice none 0 0) = w3 at HT3 ⊢
  refine (refText_calls P w3 g (aftT l) (badT l false) HT3.out.rd HT3.out.by_).mono ?_
  rintro e w4 ⟨rfl, hI, hb, hk⟩
  have HT4 := Aside0.mk (HT3.out.read hI hb hk (aftT_bytes HT3.out.by_))
  clear HT3 hI hb hk
  obtain ⟨t, ht⟩ : ∃ t, t = textOf (aftT l) := ⟨_, rfl⟩
  rw [← ht]
  have HTT := Aside0.mk ht
  clear ht
  have he0 := blk_cell HT4.out.hE 1
  have hfz := blk_frozen HT4.out.hE 1
  go_upto_region 3 with (fail)
  have HT5 := Aside0.mk (HT4.out.set1 t)
  clear HT4 he0 hfz
  generalize w4.setCell ⟨E, 1, none⟩ (.string t) = w5 at HT5 ⊢
  go_wp2_with fail
  refine (refNum_calls P w5 g (aftT (aftT l)) (badT (aftT l) (badT l false)) HT5.out.rd HT5.out.by_).mono ?_
  rintro e w6 ⟨rfl, hI, hb, hk⟩
  have HT6 := Aside0.mk (HT5.out.read hI hb hk (aft_bytes HT5.out.by_))
  clear HT5 hI hb hk
  obtain ⟨n, hn⟩ : ∃ n, n = numOf (aftT (aftT l)) := ⟨_, rfl⟩
  rw [← hn]
  have HN := Aside0.mk hn
  clear hn
  obtain ⟨l3, hl3⟩ : ∃ l3, l3 = aft (aftT (aftT l)) := ⟨_, rfl⟩
  rw [← hl3] at HT6
  have HL3 := Aside0.mk hl3
  clear hl3
  obtain ⟨b3, hb3⟩ : ∃ b3, b3 = badOf (aftT (aftT l)) (badT (aftT l) (badT l false)) := ⟨_, rfl⟩
  rw [← hb3] at HT6
  have HB3 := Aside0.mk hb3
  clear hb3
  go_upto_block 0 with fail
  go_cut [6] from 18 to 40 (fun v6 wc => ∃ (j : Nat) (v2 : Value), Aside0 (Tr w0 wc P g E (takeTs j l3 b3).2.1 (takeTs j l3 b3).2.2 s t v2 (takeTs j l3 b3).1 (.slice none 0 0) []) ∧ Aside0 ((∀ i, i < j → (takeTs i l3 b3).2.2 = false ∧ (i : Int) < n) ∧ j ≤ 7 ∧ ¬ ((j : Int) < n ∧ j ≤ 6 ∧ (takeTs j l3 b3).2.2 = false)))
  case first =>
    go_wp2_with fail
    go_loopg [6] 7 (fun k v6 wi => ∃ (i : Nat) (v2 : Value), v6 = .int .i64 (i : Int) ∧ Aside0 (i + k = 7) ∧ Aside0 (Tr w0 wi P g E (takeTs i l3 b3).2.1 (takeTs i l3 b3).2.2 s t v2 (takeTs i l3 b3).1 (.slice none 0 0) []) ∧ Aside0 (∀ j, j < i → (takeTs j l3 b3).2.2 = false ∧ (j : Int) < n))
    case atStart => exact ⟨0, _, rfl, ⟨by omega⟩, ⟨HT6.out⟩, ⟨fun j hj => by omega⟩⟩
    case round =>
      clear HT6
      obtain ⟨i, v2, rfl, HE, HT, HA⟩ := hrel
      have hi7 : i ≤ 7 := by have := HE.out; omega
      obtain ⟨⟨tags, li, bi⟩, hq⟩ : ∃ q, takeTs i l3 b3 = q := ⟨_, rfl⟩
      rw [hq] at HT
      simp only at HT
      have HQI := Aside0.mk hq
      clear hq
      have hbad := HT.out.rd.isBad
      by_cases c1 : (i : Int) < n
      · have d1 : decide ((i : Int) < n) = true := decide_eq_true c1
        by_cases c2 : i ≤ 6
        · have d2 : decide ((i : Int) ≤ 6) = true := decide_eq_true (by omega)
          cases bi with
          | false =>
            have HC1 := Aside0.mk c1
            clear c1
            have htl : tags.length ≤ 1000 := by have := takeTs_len l3 b3 i; rw [HQI.out] at this; simp only at this; omega
            go_upto_region 7 with fail
            refine start_ (n := 8) (S := fun w' => w'.cell? ⟨E, 2, none⟩ = some v2) (ds := [7]) #[false, false, false, false, false, false, false, false] (by kernel_rfl) rfl rfl ((blk_cell HT.out.drew.hE 2).trans rfl) (fun hHeld => ?_); refine with_tabW D33.tab7 D33.bits7 (fun HT_ HW_ => ?_)
            have HT1 := Aside0.mk HT.out.drew
            clear HT hbad
            generalize World.drew _ = w1_ at HT1 hHeld ⊢
            refine pure_ (i := 0) (N := some 34) (v := ?_) (a' := ?_) #[true, false, false, false, false, false, false, false] rfl rfl (any_of HT_.out (by kernel_rfl)) (fun _ _ _ h => h) (Or.inl ⟨by rfl, ?_⟩) ?_ ?_
            rotate_left
            · intro w'
              go_simp
              with_reducible rfl
            rotate_left
            · simp only [Act.put, List.setIfInBounds_toArray, List.set_cons_zero, List.set_cons_succ, i64_w, i32_w]
              rfl
            refine take_ (i := 1) (N := some 35) (v := ?_) (a' := ?_) #[true, true, false, false, false, false, false, false] rfl rfl (take_ofW HT_.out HW_.out (by kernel_rfl)) (fun _ _ _ h => h) (Or.inl ⟨by rfl, ?_⟩) hHeld ?_ ?_
            rotate_left
            · rintro w' s0
              go_simp
              with_reducible rfl
            rotate_left
            · simp only [Act.put, List.setIfInBounds_toArray, List.set_cons_zero, List.set_cons_succ, i64_w, i32_w]
              rfl
            refine pure_ (i := 2) (N := some 36) (v := ?_) (a' := ?_) #[true, true, true, false, false, false, false, false] rfl rfl (any_of HT_.out (by kernel_rfl)) (fun _ _ _ h => h) (Or.inl ⟨by rfl, ?_⟩) ?_ ?_
            rotate_left
            · intro w'
              go_simp
              with_reducible rfl
            rotate_left
            · simp only [Act.put, List.setIfInBounds_toArray, List.set_cons_zero, List.set_cons_succ, i64_w, i32_w]
              rfl
            refine one_ (i := 3) (N := some 37) #[true, true, true, true, false, false, false, false] rfl rfl (one_of HT_.out (by kernel_rfl)) (by decide) (fun K hK => ?_)
            refine goes_ Try.func51 (by kernel_rfl) rfl #[.pointer (some ⟨g, 0, none⟩)] (by rfl) rfl rfl (by (try simp only [List.map_toArray, List.map_cons, List.map_nil]); first | done | rfl) ?_
            with_reducible refine (refText_calls P w1_ g li false HT1.out.rd HT1.out.by_).mono ?_
            rintro e w2_ ⟨rfl, hI, hb, hk⟩
            refine ⟨_, rfl, ?_⟩
            have HT2 := Aside0.mk (HT1.out.read hI hb hk (aftT_bytes HT1.out.by_))
            clear HT1 hI hb hk
            refine hK.out _ _ ((blk_cell HT2.out.hE 2).trans rfl) (fun hHeld => ?_)
            clear hK K
            refine norm_ (a' := ?_) ?_ ?_
            rotate_left
            · show Act.put _ (some 37) _ = _
              simp only [Act.put, List.setIfInBounds_toArray, List.set_cons_zero, List.set_cons_succ, i64_w, i32_w]
              rfl
            obtain ⟨x1, hx⟩ : ∃ x1, x1 = textOf li := ⟨_, rfl⟩
            rw [← hx]
            have HX1 := Aside0.mk hx
            clear hx
            refine one_ (i := 4) (N := some 38) #[true, true, true, true, true, false, false, false] rfl rfl (one_of HT_.out (by kernel_rfl)) (by decide) (fun K hK => ?_)
            refine event_step (by rfl) (v := .slice (some ⟨w2_.heap.size, 0, none⟩) 1 1) (w1 := w2_.alloc (.cells #[.string x1] 9)) ?_ ?_
            · first | (go_simp; done) | (go_simp; rfl)
            refine hK.out _ _ ((blk_cell (HT2.out.alloc _).hE 2).trans rfl) (fun hHeld => ?_)
            clear hK K
            refine norm_ (a' := ?_) ?_ ?_
            rotate_left
            · show Act.put _ (some 38) _ = _
              simp only [Act.put, List.setIfInBounds_toArray, List.set_cons_zero, List.set_cons_succ, i64_w, i32_w]
              rfl
            refine one_ (i := 5) (N := some 39) #[true, true, true, true, true, true, false, false] rfl rfl (one_of HT_.out (by kernel_rfl)) (by decide) (fun K hK => ?_)
            refine Kd.R_append_step Kd.string (w0 := w2_) w0.heap.size (by rfl) (.tmp 35) (.tmp 38) 37 9 (.string ⟨#[]⟩) 16 rfl Try.underlying37 info_str rfl (by decide) (by omega) v2 tags x1 [.string x1] (fun _ => True) (fun _ => False) rfl rfl rfl (fun _ hk => hk.elim) (fun _ _ => trivial) HT2.out.r2 (Below.refl _ _) HT2.out.keep.1 (by omega) ?_
            intro v w3_ ho hb hg hat
            have HO := Aside0.mk ho
            have HBl := Aside0.mk hb
            have HG := Aside0.mk hg
            clear ho hb hg hat
            refine hK.out _ _ ((blk_cell (blk_grown HT2.out.hE HG.out (Kd.R_ne HT2.out.r2 HT2.out.hE (by decide))) 2).trans rfl) (fun hHeld => ?_)
            clear hK K
            refine norm_ (a' := ?_) ?_ ?_
            rotate_left
            · show Act.put _ (some 39) _ = _
              simp only [Act.put, List.setIfInBounds_toArray, List.set_cons_zero, List.set_cons_succ, i64_w, i32_w]
              rfl
            refine pure_ (i := 6) (N := some 40) (v := ?_) (a' := ?_) #[true, true, true, true, true, true, true, false] rfl rfl (any_of HT_.out (by kernel_rfl)) (fun _ _ _ h => h) (Or.inl ⟨by rfl, ?_⟩) ?_ ?_
            rotate_left
            · intro w'
              go_simp
              with_reducible rfl
            rotate_left
            · simp only [Act.put, List.setIfInBounds_toArray, List.set_cons_zero, List.set_cons_succ, i64_w, i32_w]
              rfl
            refine last_ (i := 7) (N := none) #[true, true, true, true, true, true, true, true] rfl rfl (one_of HT_.out (by kernel_rfl)) (by decide) (fun K hK => ?_)
            obtain ⟨Av, cv, ev_⟩ := Kd.R_slice HO.out
            subst ev_
            have hfz := blk_frozen (blk_grown HT2.out.hE HG.out (Kd.R_ne HT2.out.r2 HT2.out.hE (by decide))) 2
            have hce := (blk_cell (blk_grown HT2.out.hE HG.out (Kd.R_ne HT2.out.r2 HT2.out.hE (by decide))) 2)
            refine skip_ (w1 := w3_.setCell ⟨E, 2, none⟩ (.slice Av (tags ++ [x1]).length cv)) (by rfl) rfl ?_ ?_
            · first | (go_simp; done) | (go_simp; rfl)
            refine hK.out _ _ ?_
            clear hK K
            refine done_ (by kernel_rfl) ?_
            clear HT_ HW_ hHeld
            have HT3 := Aside0.mk (HT2.out.push2 HO.out HBl.out HG.out)
            have HQ3 := Aside0.mk (takeTs_succ HQI.out)
            clear HT2 hfz hce HO HBl HG
            generalize w3_.setCell ⟨E, 2, none⟩ (.slice Av (tags ++ [x1]).length cv) = w4 at HT3 ⊢
            go_wp2_with fail
            go_roundg (7 - (i + 1))
            case measure => have := HE.out; omega
            case rel => exact ⟨i + 1, .slice Av (tags ++ [x1]).length cv, by go_num, ⟨by omega⟩, by rw [HQ3.out, ← HX1.out]; exact HT3, ⟨fun j hj => by
              by_cases e : j = i
              · rw [e, HQI.out]; exact ⟨rfl, HC1.out⟩
              · exact HA.out j (by omega)⟩⟩
          | true =>
            have HC1 := Aside0.mk c1
            clear c1
            go_wp2_with fail
            go_meet
            case rel => exact ⟨i, v2, by rw [HQI.out]; exact HT, ⟨HA.out, hi7, by rw [HQI.out]; simp⟩⟩
        · have d2 : decide ((i : Int) ≤ 6) = false := decide_eq_false (by omega)
          have HC1 := Aside0.mk c1
          clear c1
          go_wp2_with fail
          go_meet
          case rel => exact ⟨i, v2, by rw [HQI.out]; exact HT, ⟨HA.out, hi7, fun h => c2 h.2.1⟩⟩
      · have d1 : decide ((i : Int) < n) = false := decide_eq_false c1
        have HC1 := Aside0.mk c1
        clear c1
        go_wp2_with fail
        go_meet
        case rel => exact ⟨i, v2, by rw [HQI.out]; exact HT, ⟨HA.out, hi7, fun h => absurd h.1 (by have := HC1.out; omega)⟩⟩
  case rest =>
    clear HT6
    obtain ⟨j, v2, HT, HA⟩ := hcut
    obtain ⟨⟨tags, l4, b4⟩, hq⟩ : ∃ q, takeTs j l3 b3 = q := ⟨_, rfl⟩
    have HZ3 := Aside0.mk (show isBytes l3 ∧ l3.length ≤ 9223372036854775807 from by rw [HL3.out]; exact ⟨aft_bytes (aftT_bytes (aftT_bytes HBY.out)), Nat.le_trans (aft_len _ (aftT_bytes (aftT_bytes HBY.out))) (Nat.le_trans (aftT_len _ (aftT_bytes HBY.out)) (Nat.le_trans (aftT_len _ HBY.out) HSL.out))⟩)
    have hqs := takeTs_left l3 b3 HZ3.out.1 j
    rw [hq] at hqs
    have htl := takeTs_len l3 b3 j
    rw [hq] at htl HT
    simp only at hqs htl HT
    have HZT : Aside0 (∀ x ∈ tags, x.size ≤ 9223372036854775807) := ⟨fun x hx => Nat.le_trans (hqs.2.2 x hx) HZ3.out.2⟩
    have HZ4 : Aside0 (l4.length ≤ 9223372036854775807) := ⟨Nat.le_trans hqs.2.1 HZ3.out.2⟩
    have HTL := Aside0.mk htl
    have HQ1 := Aside0.mk hq
    clear hqs htl hq
    by_cases cn : n < 0
    · have d1 : decide (n < 0) = true := decide_eq_true cn
      have HNO : Aside0 (noE l) := ⟨_, _, takeE_n (.inl (by rw [← HN.out]; exact cn))⟩
      clear cn
      have HQW := Aside0.mk ((HT.out.keep.blk HQ.out (by have := HGW.out; have := HQN.out.2; omega) (by simp)))
      have HO := Aside0.mk (OutR.of_Tr HT.out HB0.out HGW.out)
      have HBYX := Aside0.mk HT.out.by_
      have hq0 := blk_cell HQW.out 0
      have hq1 := blk_cell HQW.out 1
      have hq2 := blk_cell HQW.out 2
      have hq3 := blk_cell HQW.out 3
      have hf0 := blk_frozen HQW.out 0
      have hf1 := blk_frozen HQW.out 1
      have hf2 := blk_frozen HQW.out 2
      have hf3 := blk_frozen HQW.out 3
      clear HT
      go_wp2
      have HQ2 := blk_put (cs' := #[.string ⟨#[]⟩, .string ⟨#[]⟩, .slice none 0 0, .slice none 0 0]) (blk_put (cs' := #[.string ⟨#[]⟩, .string ⟨#[]⟩, .slice none 0 0, .slice none 0 0]) (blk_put (cs' := #[.string ⟨#[]⟩, .string ⟨#[]⟩, .slice none 0 0, .slice none 0 0]) (blk_put (cs' := #[.string ⟨#[]⟩, .string ⟨#[]⟩, .slice none 0 0, .slice none 0 0]) HQW.out 0 (.string ⟨#[]⟩) rfl) 1 (.string ⟨#[]⟩) rfl) 2 (.slice none 0 0) rfl) 3 (.slice none 0 0) rfl
      refine bodyPost_ret (results_ct rfl _ _ Q 40 _ (0, 0) _ rfl HQ2 Try.underlying40 rfl (by kernel_rfl)) rfl ?_
      obtain ⟨lx, bx, hno⟩ := HNO.out
      have hx := HX.out
      rw [hno] at hx
      simp only [Prod.mk.injEq] at hx
      obtain ⟨rfl, rfl, rfl, rfl⟩ := hx
      have ho := (((HO.out.set HGW.out HP.out HQN.out.2 0 (.string ⟨#[]⟩)).set HGW.out HP.out HQN.out.2 1 (.string ⟨#[]⟩)).set HGW.out HP.out HQN.out.2 2 (.slice none 0 0)).set HGW.out HP.out HQN.out.2 3 (.slice none 0 0)
      unfold RefPost
      exact ⟨.slice none 0 0, .slice none 0 0, _, _, rfl, Kd.R_nil _ _ _ _ _, Kd.R_nil _ _ _ _ _, ho.1, HBYX.out, fun h => absurd h (by decide), ho.2.1, ho.2.2⟩
    · have d1 : decide (n < 0) = false := decide_eq_false cn
      by_cases c6 : 6 < n
      · have d2 : decide (6 < n) = true := decide_eq_true c6
        have HNO : Aside0 (noE l) := ⟨_, _, takeE_n (.inr (by rw [← HN.out]; exact c6))⟩
        clear c6 cn
        have HQW := Aside0.mk ((HT.out.keep.blk HQ.out (by have := HGW.out; have := HQN.out.2; omega) (by simp)))
        have HO := Aside0.mk (OutR.of_Tr HT.out HB0.out HGW.out)
        have HBYX := Aside0.mk HT.out.by_
        have hq0 := blk_cell HQW.out 0
        have hq1 := blk_cell HQW.out 1
        have hq2 := blk_cell HQW.out 2
        have hq3 := blk_cell HQW.out 3
        have hf0 := blk_frozen HQW.out 0
        have hf1 := blk_frozen HQW.out 1
        have hf2 := blk_frozen HQW.out 2
        have hf3 := blk_frozen HQW.out 3
        clear HT
        go_wp2
        have HQ2 := blk_put (cs' := #[.string ⟨#[]⟩, .string ⟨#[]⟩, .slice none 0 0, .slice none 0 0]) (blk_put (cs' := #[.string ⟨#[]⟩, .string ⟨#[]⟩, .slice none 0 0, .slice none 0 0]) (blk_put (cs' := #[.string ⟨#[]⟩, .string ⟨#[]⟩, .slice none 0 0, .slice none 0 0]) (blk_put (cs' := #[.string ⟨#[]⟩, .string ⟨#[]⟩, .slice none 0 0, .slice none 0 0]) HQW.out 0 (.string ⟨#[]⟩) rfl) 1 (.string ⟨#[]⟩) rfl) 2 (.slice none 0 0) rfl) 3 (.slice none 0 0) rfl
        refine bodyPost_ret (results_ct rfl _ _ Q 40 _ (0, 0) _ rfl HQ2 Try.underlying40 rfl (by kernel_rfl)) rfl ?_
        obtain ⟨lx, bx, hno⟩ := HNO.out
        have hx := HX.out
        rw [hno] at hx
        simp only [Prod.mk.injEq] at hx
        obtain ⟨rfl, rfl, rfl, rfl⟩ := hx
        have ho := (((HO.out.set HGW.out HP.out HQN.out.2 0 (.string ⟨#[]⟩)).set HGW.out HP.out HQN.out.2 1 (.string ⟨#[]⟩)).set HGW.out HP.out HQN.out.2 2 (.slice none 0 0)).set HGW.out HP.out HQN.out.2 3 (.slice none 0 0)
        unfold RefPost
        exact ⟨.slice none 0 0, .slice none 0 0, _, _, rfl, Kd.R_nil _ _ _ _ _, Kd.R_nil _ _ _ _ _, ho.1, HBYX.out, fun h => absurd h (by decide), ho.2.1, ho.2.2⟩
      · have d2 : decide (6 < n) = false := decide_eq_false c6
        have HN1 : Aside0 (¬ (numOf (aftT (aftT l)) < 0 ∨ 6 < numOf (aftT (aftT l)))) := ⟨by rw [← HN.out]; omega⟩
        clear c6 cn
        go_wp2_with fail
        refine (refNum_calls P wc g l4 b4 HT.out.rd HT.out.by_).mono ?_
        rintro e w6 ⟨rfl, hI, hb, hk⟩
        have HT6 := Aside0.mk (HT.out.read hI hb hk (aft_bytes HT.out.by_))
        have HY4 := Aside0.mk HT.out.by_
        clear HT hI hb hk
        obtain ⟨m, hm⟩ : ∃ m, m = numOf l4 := ⟨_, rfl⟩
        rw [← hm]
        have HM := Aside0.mk hm
        clear hm
        go_upto_block 2 with fail
        obtain ⟨l5, hl5⟩ : ∃ l5, l5 = aft l4 := ⟨_, rfl⟩
        rw [← hl5] at HT6
        have HL5 := Aside0.mk hl5
        clear hl5
        obtain ⟨b5, hb5⟩ : ∃ b5, b5 = badOf l4 b4 := ⟨_, rfl⟩
        rw [← hb5] at HT6
        have HB5 := Aside0.mk hb5
        clear hb5
        go_cut [8, 9] from 50 to 77 (fun v8 v9 wc => ∃ (j : Nat) (v3 : Value), Aside0 (Tr w0 wc P g E (takeFs j l5 b5).2.1 (takeFs j l5 b5).2.2 s t v2 tags v3 (takeFs j l5 b5).1) ∧ Aside0 ((∀ i, i < j → (takeFs i l5 b5).2.2 = false ∧ (i : Int) < m) ∧ j ≤ 5 ∧ ¬ ((j : Int) < m ∧ j ≤ 4 ∧ (takeFs j l5 b5).2.2 = false)))
        case first =>
          go_wp2_with fail
          go_loopg [8, 9] 5 (fun k v8 v9 wi => ∃ (i : Nat) (v3 : Value), v8 = .int .i64 (i : Int) ∧ Aside0 (i + k = 5) ∧ Aside0 (Tr w0 wi P g E (takeFs i l5 b5).2.1 (takeFs i l5 b5).2.2 s t v2 tags v3 (takeFs i l5 b5).1) ∧ Aside0 (∀ j, j < i → (takeFs j l5 b5).2.2 = false ∧ (j : Int) < m))
          case atStart => exact ⟨0, _, rfl, ⟨by omega⟩, ⟨HT6.out⟩, ⟨fun j hj => by omega⟩⟩
          case round =>
            clear HT6
            obtain ⟨i, v3, rfl, HE, HT, HA2⟩ := hrel
            have hi5 : i ≤ 5 := by have := HE.out; omega
            obtain ⟨⟨fl, li, bi⟩, hq⟩ : ∃ q, takeFs i l5 b5 = q := ⟨_, rfl⟩
            rw [hq] at HT
            simp only at HT
            have HQI := Aside0.mk hq
            clear hq
            have hbad := HT.out.rd.isBad
            by_cases c1 : (i : Int) < m
            · have d3 : decide ((i : Int) < m) = true := decide_eq_true c1
              by_cases c2 : i ≤ 4
              · have d4 : decide ((i : Int) ≤ 4) = true := decide_eq_true (by omega)
                cases bi with
                | false =>
                  have HC1 := Aside0.mk c1
                  clear c1
                  have hfl : fl.length ≤ 1000 := by have := takeFs_len l5 b5 i; rw [HQI.out] at this; simp only at this; omega
                  go_wp2_with fail
                  refine (refText_calls P _ g li false HT.out.rd HT.out.by_).mono ?_
                  rintro e w1 ⟨rfl, hI, hb, hk⟩
                  have HT1 := Aside0.mk (HT.out.read hI hb hk (aftT_bytes HT.out.by_))
                  clear HT hI hb hk hbad
                  obtain ⟨x1, hx⟩ : ∃ x1, x1 = textOf li := ⟨_, rfl⟩
                  rw [← hx]
                  have HX1 := Aside0.mk hx
                  clear hx
                  go_wp2_with (first | ((with_reducible refine gate_dst (N := 9) rfl ?_); refine box_event ?hg (N := 9) ?hd (cs := #[.string (⟨#[]⟩ : ByteArray), .int .i64 0]) (t := 50) ?hr ?_; (case hd => rfl); (case hg => rfl); (case hr => first | (go_simp; done) | (go_simp; rfl)); intro B hg w2 hbox hb; have HNB := Aside0.mk (show some B ≠ v3.ownBlock by intro e_; have := Kd.R_lt HT1.out.r3 B e_.symm; omega); have HT2 := Aside0.mk (HT1.out.up hb); have HBX := Aside0.mk hbox; have HGE := Aside0.mk (show w0.heap.size ≤ B by rw [hg]; exact HT1.out.keep.1); clear HT1 hg hbox hb; have hb0 := blk_cell HBX.out 0; have hb1 := blk_cell HBX.out 1; have hfz0 := blk_frozen HBX.out 0; have hfz1 := blk_frozen HBX.out 1))
                  have hneE := blk_ne HBX.out HT2.out.hE (by decide)
                  have HN2 := Aside0.mk (Kd.R_ne HT2.out.r2 HBX.out (by decide))
                  have HT3 := Aside0.mk ((HT2.out.side HGE.out hneE HN2.out HNB.out 0 (.string x1)).side HGE.out hneE HN2.out HNB.out 1 (.int .i64 0))
                  have HB3_ := Aside0.mk (blk_put (cs' := #[.string x1, .int .i64 0]) (blk_put (cs' := #[.string x1, .int .i64 0]) HBX.out 0 (.string x1) rfl) 1 (.int .i64 0) rfl)
                  clear HT2 HBX hb0 hb1 hfz0 hfz1
                  generalize (World.setCell _ ⟨B, 0, none⟩ (.string x1)).setCell ⟨B, 1, none⟩ (.int .i64 0) = w3 at HT3 HB3_ ⊢
                  refine (refNum_calls P w3 g (aftT li) (badT li false) HT3.out.rd HT3.out.by_).mono ?_
                  rintro e w4 ⟨rfl, hI, hb, hk⟩
                  have HB4 := Aside0.mk (hk.blk HB3_.out (by have := HT3.out.gN; have := HGE.out; omega) (by simp))
                  have HT4 := Aside0.mk (HT3.out.read hI hb hk (aft_bytes HT3.out.by_))
                  clear HT3 HB3_ hI hb hk
                  obtain ⟨n1, hn⟩ : ∃ n1, n1 = numOf (aftT li) := ⟨_, rfl⟩
                  rw [← hn]
                  have HNU := Aside0.mk hn
                  clear hn
                  have HT5 := Aside0.mk (HT4.out.side HGE.out hneE HN2.out HNB.out 1 (.int .i64 n1))
                  have HB5_ := Aside0.mk (blk_put (cs' := #[.string x1, .int .i64 n1]) HB4.out 1 (.int .i64 n1) rfl)
                  have hb0 := blk_cell HB4.out 0
                  have hb1 := blk_cell HB4.out 1
                  have hfz1 := blk_frozen HB4.out 1
                  go_upto_region 16 with (fail)
                  clear hb0 hb1 hfz1 HT4 HB4
                  generalize w4.setCell ⟨B, 1, none⟩ (.int .i64 n1) = w5 at HT5 HB5_ ⊢
                  have he3 := blk_cell HT5.out.hE 3
                  have hc0 := blk_cell HB5_.out 0
                  have hc1 := blk_cell HB5_.out 1
                  obtain ⟨A3, c3, e3⟩ := Kd.R_slice HT5.out.r3
                  subst e3
                  go_wp2_with (first | ((with_reducible refine gate_builtin (b := .append) (xs := #[.tmp 73, .tmp 75]) rfl ?_); at_builtin; refine Kd.R_append k50 (w0 := _) w0.heap.size rfl (.tmp 73) (.tmp 75) 38 50 (.agg #[.string ⟨#[]⟩, .int .i64 0]) 24 rfl Try.underlying38 info_field rfl (by decide) (by omega) (.slice A3 fl.length c3) fl ⟨x1, n1⟩ [.string x1, .int .i64 n1] (fun _ => True) (fun _ => False) rfl rfl (k50_mkM _ _ _ _) (fun _ hk => hk.elim) (fun _ _ => trivial) HT5.out.r3 (Below.refl _ _) HT5.out.keep.1 (by omega) ?_; intro v w6 ho hb hg hat; have HO := Aside0.mk ho; have HBl := Aside0.mk hb; have HG := Aside0.mk hg; clear ho hb hg hat; obtain ⟨Av, cv, ev_⟩ := Kd.R_slice HO.out; subst ev_; have hfz := blk_frozen (blk_grown HT5.out.hE HG.out (Kd.R_ne HT5.out.r3 HT5.out.hE (by decide))) 3; have hce := (blk_cell (blk_grown HT5.out.hE HG.out (Kd.R_ne HT5.out.r3 HT5.out.hE (by decide))) 3)))
                  have HT7 := Aside0.mk (HT5.out.push3 HO.out HBl.out HG.out)
                  have HQ3 := Aside0.mk (takeFs_succ HQI.out)
                  go_roundg (5 - (i + 1))
                  case measure => have := HE.out; omega
                  case rel => exact ⟨i + 1, .slice Av (fl.length + 1) cv, by go_num, ⟨by omega⟩, by
                    have hq := HT7.out
                    rw [HQ3.out, ← HX1.out, ← HNU.out]
                    rw [List.length_append, List.length_singleton] at hq
                    exact ⟨hq⟩, ⟨fun j hj => by
                    by_cases e : j = i
                    · rw [e, HQI.out]; exact ⟨rfl, HC1.out⟩
                    · exact HA2.out j (by omega)⟩⟩
                | true =>
                  have HC1 := Aside0.mk c1
                  clear c1
                  go_wp2_with fail
                  go_meet
                  case rel => exact ⟨i, v3, by rw [HQI.out]; exact HT, ⟨HA2.out, hi5, by rw [HQI.out]; simp⟩⟩
              · have d4 : decide ((i : Int) ≤ 4) = false := decide_eq_false (by omega)
                have HC1 := Aside0.mk c1
                clear c1
                go_wp2_with fail
                go_meet
                case rel => exact ⟨i, v3, by rw [HQI.out]; exact HT, ⟨HA2.out, hi5, fun h => c2 h.2.1⟩⟩
            · have d3 : decide ((i : Int) < m) = false := decide_eq_false c1
              have HC1 := Aside0.mk c1
              clear c1
              go_wp2_with fail
              go_meet
              case rel => exact ⟨i, v3, by rw [HQI.out]; exact HT, ⟨HA2.out, hi5, fun h => absurd h.1 (by have := HC1.out; omega)⟩⟩
        case rest =>
          clear HT6
          obtain ⟨j2, v3, HT, HA2⟩ := hcut
          obtain ⟨⟨fl, l6, b6⟩, hq⟩ : ∃ q, takeFs j2 l5 b5 = q := ⟨_, rfl⟩
          have HY5 := Aside0.mk (show isBytes l5 ∧ l5.length ≤ 9223372036854775807 from by rw [HL5.out]; exact ⟨aft_bytes HY4.out, Nat.le_trans (aft_len _ HY4.out) HZ4.out⟩)
          have hqs := takeFs_left l5 b5 HY5.out.1 j2
          have hfl := takeFs_len l5 b5 j2
          have HLAW := Aside0.mk (refTake_no (j := j) (j2 := j2) (tags := tags) (l4 := l4) (b4 := b4) (fl := fl) (l6 := l6) (b6 := b6) HN1.out (by rw [← HN.out, ← HL3.out, ← HB3.out]; exact HA.out) (by rw [← HL3.out, ← HB3.out]; exact HQ1.out) (by rw [← HL5.out, ← HB5.out, ← HM.out]; exact HA2.out) (by rw [← HL5.out, ← HB5.out]; exact hq))
          have hj2 := HA2.out.2.1
          have hj1 := HA.out.2.1
          rw [hq] at hqs hfl HT
          simp only at hqs hfl HT
          have HZF : Aside0 (∀ x ∈ fl, x.f0.size ≤ 9223372036854775807) := ⟨fun x hx => Nat.le_trans (hqs.2.2 x hx) HY5.out.2⟩
          have HFL := Aside0.mk (show fl.length ≤ 5 by omega)
          have HTL2 := Aside0.mk (show tags.length ≤ 7 by have := HTL.out; omega)
          rw [← HM.out, ← HS.out, ← HTT.out] at HLAW
          clear hqs hfl hq hj2 hj1 HA HA2
          by_cases cm : m < 0
          · have d3 : decide (m < 0) = true := decide_eq_true cm
            have HNO := Aside0.mk (HLAW.out.1 (.inl cm))
            clear cm
            have HQW := Aside0.mk ((HT.out.keep.blk HQ.out (by have := HGW.out; have := HQN.out.2; omega) (by simp)))
            have HO := Aside0.mk (OutR.of_Tr HT.out HB0.out HGW.out)
            have HBYX := Aside0.mk HT.out.by_
            have hq0 := blk_cell HQW.out 0
            have hq1 := blk_cell HQW.out 1
            have hq2 := blk_cell HQW.out 2
            have hq3 := blk_cell HQW.out 3
            have hf0 := blk_frozen HQW.out 0
            have hf1 := blk_frozen HQW.out 1
            have hf2 := blk_frozen HQW.out 2
            have hf3 := blk_frozen HQW.out 3
            clear HT
            go_wp2
            have HQ2 := blk_put (cs' := #[.string ⟨#[]⟩, .string ⟨#[]⟩, .slice none 0 0, .slice none 0 0]) (blk_put (cs' := #[.string ⟨#[]⟩, .string ⟨#[]⟩, .slice none 0 0, .slice none 0 0]) (blk_put (cs' := #[.string ⟨#[]⟩, .string ⟨#[]⟩, .slice none 0 0, .slice none 0 0]) (blk_put (cs' := #[.string ⟨#[]⟩, .string ⟨#[]⟩, .slice none 0 0, .slice none 0 0]) HQW.out 0 (.string ⟨#[]⟩) rfl) 1 (.string ⟨#[]⟩) rfl) 2 (.slice none 0 0) rfl) 3 (.slice none 0 0) rfl
            refine bodyPost_ret (results_ct rfl _ _ Q 40 _ (0, 0) _ rfl HQ2 Try.underlying40 rfl (by kernel_rfl)) rfl ?_
            obtain ⟨lx, bx, hno⟩ := HNO.out
            have hx := HX.out
            rw [hno] at hx
            simp only [Prod.mk.injEq] at hx
            obtain ⟨rfl, rfl, rfl, rfl⟩ := hx
            have ho := (((HO.out.set HGW.out HP.out HQN.out.2 0 (.string ⟨#[]⟩)).set HGW.out HP.out HQN.out.2 1 (.string ⟨#[]⟩)).set HGW.out HP.out HQN.out.2 2 (.slice none 0 0)).set HGW.out HP.out HQN.out.2 3 (.slice none 0 0)
            unfold RefPost
            exact ⟨.slice none 0 0, .slice none 0 0, _, _, rfl, Kd.R_nil _ _ _ _ _, Kd.R_nil _ _ _ _ _, ho.1, HBYX.out, fun h => absurd h (by decide), ho.2.1, ho.2.2⟩
          · have d3 : decide (m < 0) = false := decide_eq_false cm
            have HCM := Aside0.mk cm
            clear cm
            have hbad := HT.out.rd.isBad
            cases b6 with
            | true =>
              have HNO := Aside0.mk (HLAW.out.1 (.inr (.inl rfl)))
              have HQW := Aside0.mk ((HT.out.keep.blk HQ.out (by have := HGW.out; have := HQN.out.2; omega) (by simp)))
              have HO := Aside0.mk (OutR.of_Tr HT.out HB0.out HGW.out)
              have HBYX := Aside0.mk HT.out.by_
              have hq0 := blk_cell HQW.out 0
              have hq1 := blk_cell HQW.out 1
              have hq2 := blk_cell HQW.out 2
              have hq3 := blk_cell HQW.out 3
              have hf0 := blk_frozen HQW.out 0
              have hf1 := blk_frozen HQW.out 1
              have hf2 := blk_frozen HQW.out 2
              have hf3 := blk_frozen HQW.out 3
              clear HT
              go_wp2
              have HQ2 := blk_put (cs' := #[.string ⟨#[]⟩, .string ⟨#[]⟩, .slice none 0 0, .slice none 0 0]) (blk_put (cs' := #[.string ⟨#[]⟩, .string ⟨#[]⟩, .slice none 0 0, .slice none 0 0]) (blk_put (cs' := #[.string ⟨#[]⟩, .string ⟨#[]⟩, .slice none 0 0, .slice none 0 0]) (blk_put (cs' := #[.string ⟨#[]⟩, .string ⟨#[]⟩, .slice none 0 0, .slice none 0 0]) HQW.out 0 (.string ⟨#[]⟩) rfl) 1 (.string ⟨#[]⟩) rfl) 2 (.slice none 0 0) rfl) 3 (.slice none 0 0) rfl
              refine bodyPost_ret (results_ct rfl _ _ Q 40 _ (0, 0) _ rfl HQ2 Try.underlying40 rfl (by kernel_rfl)) rfl ?_
              obtain ⟨lx, bx, hno⟩ := HNO.out
              have hx := HX.out
              rw [hno] at hx
              simp only [Prod.mk.injEq] at hx
              obtain ⟨rfl, rfl, rfl, rfl⟩ := hx
              have ho := (((HO.out.set HGW.out HP.out HQN.out.2 0 (.string ⟨#[]⟩)).set HGW.out HP.out HQN.out.2 1 (.string ⟨#[]⟩)).set HGW.out HP.out HQN.out.2 2 (.slice none 0 0)).set HGW.out HP.out HQN.out.2 3 (.slice none 0 0)
              unfold RefPost
              exact ⟨.slice none 0 0, .slice none 0 0, _, _, rfl, Kd.R_nil _ _ _ _ _, Kd.R_nil _ _ _ _ _, ho.1, HBYX.out, fun h => absurd h (by decide), ho.2.1, ho.2.2⟩
            | false =>
              obtain ⟨A2, c2, e2, hc2, hC2⟩ := Kd.R_reads HT.out.r2
              subst e2
              obtain ⟨A3, c3, e3, hc3, hC3⟩ := Kd.R_reads HT.out.r3
              subst e3
              have HC2 := Aside0.mk hC2
              have HC3 := Aside0.mk hC3
              have he0 := blk_cell HT.out.hE 0
              have he1 := blk_cell HT.out.hE 1
              have he2 := blk_cell HT.out.hE 2
              have he3 := blk_cell HT.out.hE 3
              clear hC2 hC3
              have hmay : registrarref04_MayG.f s t tags fl = some (mayE s t tags fl) := if_pos ⟨fitE_iff.2 ⟨by rw [HS.out]; exact HSZ.out, by rw [HTT.out]; exact HSY.out, HZT.out, HZF.out, by have := HFL.out; omega⟩, by have := HTL2.out; omega⟩
              have HMAY := Aside0.mk hmay
              clear hmay
              obtain ⟨mm, hmm⟩ : ∃ mm, mm = mayE s t tags fl := ⟨_, rfl⟩
              rw [← hmm] at HMAY
              have HMM := Aside0.mk hmm
              clear hmm
              go_wp2_with fail
              refine (registrarref04_MayG.calls s t A2 c2 tags A3 c3 fl mm _ HC2.out hc2 HC3.out hc3 HMAY.out).mono ?_
              rintro e w8 ⟨rfl, hb⟩
              have HT8 := Aside0.mk (HT.out.up hb)
              clear HT hb he0 he1 he2 he3 hbad HC2 HC3
              by_cases h0 : mm = 0
              · have hbn : (mm != 0) = false := bne_eq_false_iff_eq.mpr h0
                have HR2 := Aside0.mk (HLAW.out.2 HCM.out (by first | rfl | trivial) (by rw [← HMM.out]; exact h0))
                clear h0 HLAW
                have HQW := Aside0.mk ((HT8.out.keep.blk HQ.out (by have := HGW.out; have := HQN.out.2; omega) (by simp)))
                have HO := Aside0.mk (OutR.of_Tr HT8.out HB0.out HGW.out)
                have HBYX := Aside0.mk HT8.out.by_
                have hq0 := blk_cell HQW.out 0
                have hq1 := blk_cell HQW.out 1
                have hq2 := blk_cell HQW.out 2
                have hq3 := blk_cell HQW.out 3
                have hf0 := blk_frozen HQW.out 0
                have hf1 := blk_frozen HQW.out 1
                have hf2 := blk_frozen HQW.out 2
                have hf3 := blk_frozen HQW.out 3
                have he0 := blk_cell HT8.out.hE 0
                have he1 := blk_cell HT8.out.hE 1
                have he2 := blk_cell HT8.out.hE 2
                have he3 := blk_cell HT8.out.hE 3
                go_wp2
                have HQ2 := blk_put (cs' := #[.string s, .string t, .slice A2 tags.length c2, .slice A3 fl.length c3]) (blk_put (cs' := #[.string s, .string t, .slice A2 tags.length c2, .slice none 0 0]) (blk_put (cs' := #[.string s, .string t, .slice none 0 0, .slice none 0 0]) (blk_put (cs' := #[.string s, .string ⟨#[]⟩, .slice none 0 0, .slice none 0 0]) HQW.out 0 (.string s) rfl) 1 (.string t) rfl) 2 (.slice A2 tags.length c2) rfl) 3 (.slice A3 fl.length c3) rfl
                refine bodyPost_ret (results_ct rfl _ _ Q 40 _ (0, 0) _ rfl HQ2 Try.underlying40 rfl (by kernel_rfl)) rfl ?_
                have hx := HX.out
                rw [HR2.out] at hx
                simp only [Prod.mk.injEq] at hx
                obtain ⟨rfl, rfl, rfl, rfl⟩ := hx
                have ho := (((HO.out.set HGW.out HP.out HQN.out.2 0 (.string s)).set HGW.out HP.out HQN.out.2 1 (.string t)).set HGW.out HP.out HQN.out.2 2 (.slice A2 tags.length c2)).set HGW.out HP.out HQN.out.2 3 (.slice A3 fl.length c3)
                unfold RefPost
                exact ⟨.slice A2 tags.length c2, .slice A3 fl.length c3, _, _, rfl, Kd.R_lower (R_set4 HT8.out.r2 HQW.out (by decide) _ _ _ _) HB0.out.size, Kd.R_lower (R_set4 HT8.out.r3 HQW.out (by decide) _ _ _ _) HB0.out.size, ho.1, HBYX.out, fun _ => ⟨rfl, rfl⟩, ho.2.1, ho.2.2⟩
              · have hbn : (mm != 0) = true := bne_iff_ne.mpr h0
                have HNO := Aside0.mk (HLAW.out.1 (.inr (.inr (by rw [← HMM.out]; exact h0))))
                clear h0 HLAW
                have HQW := Aside0.mk ((HT8.out.keep.blk HQ.out (by have := HGW.out; have := HQN.out.2; omega) (by simp)))
                have HO := Aside0.mk (OutR.of_Tr HT8.out HB0.out HGW.out)
                have HBYX := Aside0.mk HT8.out.by_
                have hq0 := blk_cell HQW.out 0
                have hq1 := blk_cell HQW.out 1
                have hq2 := blk_cell HQW.out 2
                have hq3 := blk_cell HQW.out 3
                have hf0 := blk_frozen HQW.out 0
                have hf1 := blk_frozen HQW.out 1
                have hf2 := blk_frozen HQW.out 2
                have hf3 := blk_frozen HQW.out 3
                clear HT8
                go_wp2
                have HQ2 := blk_put (cs' := #[.string ⟨#[]⟩, .string ⟨#[]⟩, .slice none 0 0, .slice none 0 0]) (blk_put (cs' := #[.string ⟨#[]⟩, .string ⟨#[]⟩, .slice none 0 0, .slice none 0 0]) (blk_put (cs' := #[.string ⟨#[]⟩, .string ⟨#[]⟩, .slice none 0 0, .slice none 0 0]) (blk_put (cs' := #[.string ⟨#[]⟩, .string ⟨#[]⟩, .slice none 0 0, .slice none 0 0]) HQW.out 0 (.string ⟨#[]⟩) rfl) 1 (.string ⟨#[]⟩) rfl) 2 (.slice none 0 0) rfl) 3 (.slice none 0 0) rfl
                refine bodyPost_ret (results_ct rfl _ _ Q 40 _ (0, 0) _ rfl HQ2 Try.underlying40 rfl (by kernel_rfl)) rfl ?_
                obtain ⟨lx, bx, hno⟩ := HNO.out
                have hx := HX.out
                rw [hno] at hx
                simp only [Prod.mk.injEq] at hx
                obtain ⟨rfl, rfl, rfl, rfl⟩ := hx
                have ho := (((HO.out.set HGW.out HP.out HQN.out.2 0 (.string ⟨#[]⟩)).set HGW.out HP.out HQN.out.2 1 (.string ⟨#[]⟩)).set HGW.out HP.out HQN.out.2 2 (.slice none 0 0)).set HGW.out HP.out HQN.out.2 3 (.slice none 0 0)
                unfold RefPost
                exact ⟨.slice none 0 0, .slice none 0 0, _, _, rfl, Kd.R_nil _ _ _ _ _, Kd.R_nil _ _ _ _ _, ho.1, HBYX.out, fun h => absurd h (by decide), ho.2.1, ho.2.2⟩
end Go.Proofs.Ytafeakcajhhkoaa.Num
namespace Go.Proofs.Ytafeakcajhhkoaa.Prt
open Go.RowKit Go.Proofs.YtafeakcajhhkoaaW.PrintWords Go.Proofs.YtafeakcajhhkoaaW.PrintLast Go.Proofs.YtafeakcajhhkoaaW.PrintMore Go.Proofs.Ytafeakcajhhkoaa.Num Go.Proofs.Ytafeakcajhhkoaa.Nam
set_option linter.unusedVariables false
set_option linter.unusedSimpArgs false

/-- What was taken so far, if the bytes are a batch's. -/
theorem takeB_acc {l0 : List Int} {acc : List S40} {l : List Int} (h : aft (aft l0) = encEs acc ++ l) (ho : ∀ x ∈ acc, OkX x) {a : Int} {m : List S40} (hB : OkB a m) (he : l0 = encB a m) :
    numOf l0 = a ∧ numOf (aft l0) = (m.length : Int) ∧ ∃ j, j ≤ m.length ∧ acc = m.take j ∧ l = encEs (m.drop j) := by
  obtain ⟨a1, a2, a3⟩ := numOf_enc hB.i64s.1 (enc (m.length : Int) ++ encEs m) false
  obtain ⟨b1, b2, b3⟩ := numOf_enc hB.i64s.2 (encEs m) false
  have e : encB a m = enc a ++ (enc (m.length : Int) ++ encEs m) := rfl
  rw [he, e] at h ⊢
  rw [a2, b2] at h
  rw [a1, a2, b1]
  obtain ⟨j, hj, hj2⟩ := encEs_part acc m l ho hB.ho h.symm
  refine ⟨rfl, rfl, j, hj, hj2, ?_⟩
  have h3 : encEs m = encEs (m.take j) ++ encEs (m.drop j) := by rw [← encEs_append, List.take_append_drop]
  rw [h3, hj2] at h
  exact (List.append_cancel_left h).symm
theorem ref10_err {l0 : List Int} {acc : List S40} {l : List Int} (h : aft (aft l0) = encEs acc ++ l) (ho : ∀ x ∈ acc, OkX x) (hi : (acc.length : Int) < numOf (aft l0)) {x : S40} {c : Int} {l' : List Int} {b' : Bool} (hx : takeE l false = (x, c, l', b')) (hc : c ≠ 0) : takeB l0 = (z24, 2) :=
  takeB_no fun a m hB he => by
    obtain ⟨h1, h2, j, hj, h3, h4⟩ := takeB_acc h ho hB he
    have hl : acc.length = j := by rw [h3, List.length_take]; omega
    rw [h2] at hi
    have hd := drop_rdE m j (by omega)
    rw [hd, encEs_cons] at h4
    rw [h4, takeE_ok (hB.ho _ (rdE_mem (by omega)))] at hx
    exact hc (congrArg (fun z => z.2.1) hx).symm
theorem ref10_end {l0 : List Int} {acc : List S40} {l : List Int} (h : aft (aft l0) = encEs acc ++ l) (ho : ∀ x ∈ acc, OkX x) (hi : numOf (aft l0) ≤ (acc.length : Int) ∨ 17 ≤ acc.length) (hno : ¬ (mayB (numOf l0) acc = 0 ∧ encB (numOf l0) acc = l0)) : takeB l0 = (z24, 2) :=
  takeB_no fun a m hB he => by
    obtain ⟨h1, h2, j, hj, h3, h4⟩ := takeB_acc h ho hB he
    have hl : acc.length = j := by rw [h3, List.length_take]; omega
    have h16 := hB.h16
    rw [h2] at hi
    have e : acc = m := by rw [h3, List.take_of_length_le (by omega)]
    refine hno ⟨mayB_zero.2 ?_, ?_⟩
    · rw [h1, e]; exact hB
    · rw [h1, e]; exact he.symm
theorem ref10_yes {l0 : List Int} {acc : List S40} (h : mayB (numOf l0) acc = 0 ∧ encB (numOf l0) acc = l0) : takeB l0 = (⟨numOf l0, acc⟩, 0) := by
  have := takeB_enc (mayB_zero.1 h.1)
  rwa [h.2] at this
theorem bad_zero {l0 : List Int} (h : badOf (aft l0) (badOf l0 false) = true) : numOf (aft l0) = 0 := by
  unfold badOf at h
  cases hd : dec (aft l0) with
  | none => unfold numOf; rw [hd]
  | some q =>
    cases hd0 : dec l0 with
    | none =>
      have : aft l0 = [] := by unfold aft; rw [hd0]
      rw [this] at hd
      cases hd
    | some q0 => rw [hd, hd0] at h; simp at h
theorem refTake10_calls (A0 : Option Addr) (c0 : Nat) (l0 : List Int) (w : World) (hr0 : Kd.C (Kd.int .u8) w A0 l0.length l0) (hc0 : l0.length ≤ c0) (hby : isBytes l0) (hlen : l0.length ≤ 1000000000000) (r1 : S24) (r2 : Int) (h : takeB l0 = (r1, r2)) :
    Calls Try.prog 19 #[.slice A0 l0.length c0] w fun e w' => ∃ v1_ : Value, e = .returned (.tuple #[.agg #[.int .i64 r1.f0, v1_], .int .i64 r2]) ∧ Kd.S k40 40 w' w.heap.size (fun _ => True) v1_ r1.f1 ∧ Below w.heap.size w w' := by
  have HR0 := Aside0.mk hr0
  have HC0 := Aside0.mk hc0
  have HBY := Aside0.mk hby
  have HH := Aside0.mk h
  clear hr0 hc0 hby h
  have hu24 := Try.underlying24
  have hu40 := Try.underlying40
  have hu59 := Try.underlying59
  go_enter Try.func19, Try.ntmps19
  go_upto_region 1 with (first | ((with_reducible refine gate_dst (N := 2) rfl ?_); (try (refine gate_guard (by rfl) ?_; dsimp only)); refine box_event ?hg (N := 2) ?hd (cs := #[.int .i64 0, .slice none 0 0]) (t := 24) ?hr ?_; (case hd => rfl); (case hg => rfl); (case hr => first | (go_simp; done) | (go_simp; rfl)); intro Q hg_ w1 hbox_ hb_; have HQ := Aside0.mk hbox_; have HQN := Aside0.mk hg_; have HQB := Aside0.mk hb_; clear hbox_ hg_ hb_))
  have HWQ := Aside0.mk (show w.heap.size ≤ Q by rw [HQN.out]; exact Nat.le_refl _)
  have HLB := Aside0.mk (Kd.C_below HR0.out HQB.out)
  have HL := Aside0.mk (Below.refl w1.heap.size w1)
  go_upto_region 2 with (first
    | ((with_reducible refine gate_dst (N := 12) rfl ?_); refine Kd.R_lit (Kd.int .u8) (w0 := w1) w1.heap.size 5 ?hg (N := 12) ?hd (xs := []) (inner := []) (ok := fun _ => True) (okp := fun _ => True) ?hr ?hp (fun _ hk => hk) trivial ?hB ?hS (by simp) ?_; (case hd => rfl); (case hg => rfl); (case hr => first | (go_simp; done) | (go_simp; rfl)); (case hp => exact (Reps.none _ _)); (case hB => exact (by repeat (first | (with_reducible first | exact HL.out | apply below_alloc | apply pw_below_drewN | apply below_drew1) | exact HL.out))); (case hS => exact (below_size (by repeat (first | (with_reducible first | exact HL.out | apply below_alloc | apply pw_below_drewN | apply below_drew1) | exact HL.out)))); intro v2 w2 ho hb hg hat; have n0_ := Aside0.mk (hb); have n1_ := Aside0.mk (ho); clear HL; have HL := n0_; have HO2 := n1_; clear n0_ n1_; clear ho hb hg hat)
    | ((with_reducible refine gate_builtin (b := .append) (xs := #[.tmp 12, .tmp 13]) rfl ?_); at_builtin; refine Kd.R_append_rows (Kd.int .u8) (w0 := w1) w1.heap.size rfl (.tmp 12) (.tmp 13) 27 5 (.int .u8 0) 1 rfl Try.underlying27 info_u8 rfl (by decide) (by omega) v2 [] l0 _ _ _ (fun _ => True) (fun _ => False) rfl rfl ?aO ?aR (fun _ _ h => h) (fun _ h => h.elim) ?aF ?aB ?aS ?aL ?_; (case aR => exact (by repeat (first | exact (Kd.C_below HLB.out HL.out) | (with_reducible refine Kd.C_alloc ?_ _) | (with_reducible refine Kd.C_drewN ?_ _) | (with_reducible refine Kd.C_drew ?_)))); (case aB => exact (by repeat (first | (with_reducible first | exact HL.out | apply below_alloc | apply pw_below_drewN | apply below_drew1) | exact HL.out))); (case aF => exact (fun _ _ => trivial)); (case aO => exact (by (with_reducible repeat (first | apply Kd.R_alloc | apply Kd.R_drewN | apply Kd.R_drew)); exact HO2.out)); (case aS => exact (below_size (by repeat (first | (with_reducible first | exact HL.out | apply below_alloc | apply pw_below_drewN | apply below_drew1) | exact HL.out)))); (case aL => simp only [List.length_nil]; omega); intro v3 w3 ho hb hg hat; have n0_ := Aside0.mk (hb); have n1_ := Aside0.mk (ho); clear HL; clear HO2; have HL := n0_; have HO3 := n1_; clear n0_ n1_; clear ho hb hg hat; obtain ⟨A4, c4, e4, hc4, hC4⟩ := Kd.R_reads HO3.out; subst e4; have HC4 := Aside0.mk (by rw [List.nil_append] at hC4; exact hC4 : Kd.C (Kd.int .u8) w3 A4 l0.length l0); have HK4 := Aside0.mk (by rw [List.nil_append] at hc4; exact hc4 : l0.length ≤ c4); clear hC4 hc4; try rw [List.nil_append])
    | ((with_reducible refine gate_dst (N := 16) rfl ?_); (try (refine gate_guard (by rfl) ?_; dsimp only)); refine box_event ?hg (N := 16) ?hd (cs := #[.slice A4 l0.length c4, .bool false]) (t := 59) ?hr ?_; (case hd => rfl); (case hg => rfl); (case hr => first | (go_simp; done) | (go_simp; rfl)); intro g hg_ w4 hbox_ hb_; have HBX := Aside0.mk hbox_; have HG2 := Aside0.mk hg_; have HBB := Aside0.mk hb_; clear hbox_ hg_ hb_))
  have HL9 := Aside0.mk (below_step ((by repeat (first | (with_reducible first | exact HL.out | apply below_alloc | apply pw_below_drewN | apply below_drew1) | exact HL.out)) : Below w1.heap.size w1 w3) HBB.out)
  have HI4 : Aside0 (Rd 59 (fun k => k < g) w4 g l0 false) := ⟨⟨A4, c4, HBX.out, HK4.out, Kd.C_below HC4.out HBB.out, fun ad e hn => by
    have h2 : ad.block < w3.heap.size := Kd.C_lt (e ▸ HC4.out) hn (by decide)
    have h3 : g = w3.heap.size := HG2.out
    show ad.block < g
    omega, Nat.lt_irrefl g⟩⟩
  have HGQ := Aside0.mk (show Q ≠ g ∧ w.heap.size ≤ g by
    have h1 := blk_lt HQ.out
    have h2 := ((by repeat (first | (with_reducible first | exact HL.out | apply below_alloc | apply pw_below_drewN | apply below_drew1) | exact HL.out)) : Below w1.heap.size w1 w3).size
    have h3 := HG2.out
    have h4 := HQB.out.size
    omega)
  have HQ4 := Aside0.mk (blk_below HQ.out HL9.out)
  have HB4 := Aside0.mk (below_then HQB.out HQB.out.size HL9.out)
  clear HL HL9 HLB HO3 HC4 HK4 HBX HBB HG2 HQ HQB HQN
  go_wp2_with fail
  refine (refNum_calls _ w4 g l0 false HI4.out HBY.out).mono ?_
  rintro e w5 ⟨rfl, hI, hb, hk⟩
  have HQ5 := Aside0.mk (hk.blk HQ4.out HGQ.out.1 (by simp))
  have HB5 := Aside0.mk (HB4.out.trans (hb.mono HGQ.out.2))
  have HI5 := Aside0.mk hI
  clear HQ4 HB4 HI4 hI hb hk
  obtain ⟨a, ha⟩ : ∃ a, a = numOf l0 := ⟨_, rfl⟩
  rw [← ha]
  have HA := Aside0.mk ha
  clear ha
  go_upto_region 3 with (first | ((with_reducible refine gate_dst (N := 5) rfl ?_); (try (refine gate_guard (by rfl) ?_; dsimp only)); refine box_event ?hg (N := 5) ?hd (cs := #[.int .i64 0, .slice none 0 0]) (t := 24) ?hr ?_; (case hd => rfl); (case hg => rfl); (case hr => first | (go_simp; done) | (go_simp; rfl)); intro X hg_ w6 hbox_ hb_; have HX := Aside0.mk hbox_; have HXN := Aside0.mk hg_; have HXB := Aside0.mk hb_; clear hbox_ hg_ hb_; have hc0 := blk_cell HX.out 0; have hf0 := blk_frozen HX.out 0; have hc1 := blk_cell HX.out 1; have hf1 := blk_frozen HX.out 1))
  have HXQ := Aside0.mk (show g ≠ X ∧ Q ≠ X ∧ w.heap.size ≤ X ∧ ¬ X < g by
    have h1 := HI5.out.lt
    have h2 := blk_lt HQ5.out
    have h3 := HXN.out
    have h4 := HB5.out.size
    omega)
  have HQ6 := Aside0.mk (blk_far (blk_far (blk_below HQ5.out HXB.out) HXQ.out.2.1 (p := ⟨X, 0, none⟩) (.int .i64 a)) HXQ.out.2.1 (p := ⟨X, 1, none⟩) (.slice none 0 0))
  have HI6 := Aside0.mk (((HI5.out.below HXB.out).kept ((KeepBut.refl _ X none).set_ 0 (.int .i64 a)) HXQ.out.1 HXQ.out.2.2.2).kept ((KeepBut.refl _ X none).set_ 1 (.slice none 0 0)) HXQ.out.1 HXQ.out.2.2.2)
  have HB6 := Aside0.mk (((below_step HB5.out HXB.out).setCell (p := ⟨X, 0, none⟩) HXQ.out.2.2.1 (.int .i64 a)).setCell (p := ⟨X, 1, none⟩) HXQ.out.2.2.1 (.slice none 0 0))
  have HX6 := Aside0.mk (blk_put (cs' := #[.int .i64 a, .slice none 0 0]) (blk_put (cs' := #[.int .i64 a, .slice none 0 0]) HX.out 0 (.int .i64 a) rfl) 1 (.slice none 0 0) rfl)
  clear HQ5 HI5 HB5 HX HXB HXN hc0 hc1 hf0 hf1
  generalize (w6.setCell ⟨X, 0, none⟩ (.int .i64 a)).setCell ⟨X, 1, none⟩ (.slice none 0 0) = w7 at HQ6 HI6 HB6 HX6 ⊢
  go_wp2_with fail
  refine (refNum_calls _ w7 g (aft l0) (badOf l0 false) HI6.out (aft_bytes HBY.out)).mono ?_
  rintro e w8 ⟨rfl, hI, hb, hk⟩
  have HQ8 := Aside0.mk (hk.blk HQ6.out HGQ.out.1 (by simp))
  have HX8 := Aside0.mk (hk.blk HX6.out (Ne.symm HXQ.out.1) (by simp))
  have HB8 := Aside0.mk (HB6.out.trans (hb.mono HGQ.out.2))
  clear HQ6 HX6 HB6 HI6 hb hk
  obtain ⟨n, hn⟩ : ∃ n, n = numOf (aft l0) := ⟨_, rfl⟩
  rw [← hn]
  have HN := Aside0.mk hn
  clear hn
  obtain ⟨bad, hbad⟩ : ∃ bad, bad = badOf (aft l0) (badOf l0 false) := ⟨_, rfl⟩
  rw [← hbad] at hI
  have HBAD := Aside0.mk hbad
  clear hbad
  obtain ⟨l2, hl2⟩ : ∃ l2, l2 = aft (aft l0) := ⟨_, rfl⟩
  rw [← hl2] at hI
  have HI8 := Aside0.mk hI
  have HL2 := Aside0.mk hl2
  clear hl2 hI
  have HBY2 := Aside0.mk (show isBytes l2 by rw [HL2.out]; exact aft_bytes (aft_bytes HBY.out))
  have HPN := Aside0.mk HI8.out.lt
  go_wp2_with fail
  go_loopg [7] 18 (fun k v7 w' => ∃ (l : List Int) (acc : List S40) (v : Value), v7 = .int .i64 (acc.length : Int) ∧ Aside0 (acc.length + k = 18) ∧ Aside0 (l2 = encEs acc ++ l) ∧ Aside0 (∀ x ∈ acc, OkX x) ∧ Aside0 (isBytes l) ∧ Aside0 (Rd 59 (fun k => k < g) w' g l bad) ∧ Aside0 (Kd.S k40 40 w' w.heap.size (fun _ => True) v acc) ∧ Aside0 (w'.heap[X]? = some (.cells #[.int .i64 a, v] 24 (0, 0))) ∧ Aside0 (w'.heap[Q]? = some (.cells #[.int .i64 0, .slice none 0 0] 24 (0, 0))) ∧ Aside0 (Below w.heap.size w w') ∧ Aside0 (∀ k, v.ownBlock = some k → g ≤ k))
  case atStart => exact ⟨l2, [], .slice none 0 0, rfl, ⟨rfl⟩, ⟨rfl⟩, ⟨fun x hx => by simp at hx⟩, HBY2, HI8, ⟨Kd.S_nil _ _ _ _ _⟩, HX8, HQ8, HB8, ⟨fun k hk => by simp [Value.ownBlock] at hk⟩⟩
  case round =>
    clear HI8 HX8 HQ8 HB8 HBY2 HPN
    obtain ⟨l, acc, v, rfl, HK, HLA, HO, HBYL, HI, HS, HX, HQ, HB, HOB⟩ := hrel
    obtain ⟨A, c, e5, _, _⟩ := Kd.S_reads HS.out
    subst e5
    have hk18 : acc.length ≤ 18 := by have := HK.out; omega
    by_cases hin : (acc.length : Int) < n
    · have d1 : decide ((acc.length : Int) < n) = true := decide_eq_true hin
      by_cases hi6 : acc.length ≤ 16
      · have d2 : decide ((acc.length : Int) ≤ 16) = true := decide_eq_true (by omega)
        have HIN := Aside0.mk hin
        clear hin
        cases bad with
        | true =>
          exfalso
          have h := bad_zero (l0 := l0) HBAD.out.symm
          rw [← HN.out] at h
          have := HIN.out
          omega
        | false =>
        obtain ⟨x, c1, l', b', hx⟩ : ∃ x c1 l' b', takeE l false = (x, c1, l', b') := ⟨_, _, _, _, rfl⟩
        have HX1 := Aside0.mk hx
        have HT := Aside0.mk (refTake_walk _ wr g l HI.out HBYL.out (fun k hk => Nat.lt_trans hk HI.out.lt) x c1 l' b' hx)
        have HGD := Aside0.mk (fun (h0 : c1 = 0) => takeE_good HBYL.out (by rw [hx, h0] : takeE l false = (x, 0, l', b')))
        have HER := Aside0.mk (fun (h0 : c1 ≠ 0) => ref10_err (l0 := l0) (by rw [← HL2.out]; exact HLA.out) HO.out (by rw [← HN.out]; exact HIN.out) hx h0)
        clear hx
        go_wp2_with fail
        refine HT.out.mono ?_
        rintro e w2 ⟨v2, v3, l3, b2, rfl, h2, h3, hI, hby, heq, hb, hk⟩
        have HEQ := Aside0.mk heq
        clear heq
        have HS2 : Aside0 (Kd.S k40 40 w2 w.heap.size (fun k => k < wr.heap.size) (.slice A acc.length c) acc) := ⟨by
          obtain ⟨A', c', hblk, _⟩ := HI.out
          exact S_turn HS.out hblk (by decide) hk⟩
        have HX2 := Aside0.mk (hk.blk HX.out (Ne.symm HXQ.out.1) (by simp))
        have HQ2 := Aside0.mk (hk.blk HQ.out HGQ.out.1 (by simp))
        have H2 := Aside0.mk h2
        have H3 := Aside0.mk h3
        have HI2 := Aside0.mk hI
        have HBY3 := Aside0.mk hby
        have HB2 := Aside0.mk (HB.out.trans (hb.mono HGQ.out.2))
        have HSZ := Aside0.mk hk.1
        have HWR := Aside0.mk HB.out.size
        clear h2 h3 hI hby hb hk HI HS HX HQ HB HT
        obtain ⟨A2, c2, e2⟩ := Kd.R_slice H2.out
        subst e2
        obtain ⟨A3, c3, e3⟩ := Kd.R_slice H3.out
        subst e3
        go_upto_region 8 with (first | ((with_reducible refine gate_dst (N := 8) rfl ?_); (try (refine gate_guard (by rfl) ?_; dsimp only)); refine box_event ?hg (N := 8) ?hd (cs := #[.string (⟨#[]⟩ : ByteArray), .string (⟨#[]⟩ : ByteArray), .slice none 0 0, .slice none 0 0]) (t := 40) ?hr ?_; (case hd => rfl); (case hg => rfl); (case hr => first | (go_simp; done) | (go_simp; rfl)); intro B hg_ w3 hbox_ hb_; have HBX := Aside0.mk hbox_; have HBN := Aside0.mk hg_; have HBB := Aside0.mk hb_; clear hbox_ hg_ hb_; have hq0 := blk_cell HBX.out 0; have hf0 := blk_frozen HBX.out 0; have hq1 := blk_cell HBX.out 1; have hf1 := blk_frozen HBX.out 1; have hq2 := blk_cell HBX.out 2; have hf2 := blk_frozen HBX.out 2; have hq3 := blk_cell HBX.out 3; have hf3 := blk_frozen HBX.out 3))
        have HBG : Aside0 (wr.heap.size ≤ B ∧ w.heap.size ≤ B ∧ g ≠ B ∧ ¬ B < g ∧ X ≠ B ∧ Q ≠ B) := ⟨by
          have h1 := HBN.out
          have h2 := HSZ.out
          have h3 := HWR.out
          have h4 := HI2.out.lt
          have h5 := blk_lt HX2.out
          have h6 := blk_lt HQ2.out
          omega⟩
        have n1_ := Aside0.mk (Kd.S_far (p := ⟨B, 3, none⟩) (Kd.S_far (p := ⟨B, 2, none⟩) (Kd.S_far (p := ⟨B, 1, none⟩) (Kd.S_far (p := ⟨B, 0, none⟩) (Kd.S_below HS2.out HBB.out) (fun k hk => by have := HBG.out.1; show k ≠ B; omega) (.string x.f0)) (fun k hk => by have := HBG.out.1; show k ≠ B; omega) (.string x.f1)) (fun k hk => by have := HBG.out.1; show k ≠ B; omega) (.slice A2 x.f2.length c2)) (fun k hk => by have := HBG.out.1; show k ≠ B; omega) (.slice A3 x.f3.length c3))
        have n2_ := Aside0.mk (R_set4 (Kd.R_below H2.out HBB.out) HBX.out (by decide) (.string x.f0) (.string x.f1) (.slice A2 x.f2.length c2) (.slice A3 x.f3.length c3))
        have n3_ := Aside0.mk (R_set4 (Kd.R_below H3.out HBB.out) HBX.out (by decide) (.string x.f0) (.string x.f1) (.slice A2 x.f2.length c2) (.slice A3 x.f3.length c3))
        have n4_ := Aside0.mk (((((HI2.out.below HBB.out).kept ((KeepBut.refl _ B none).set_ 0 (.string x.f0)) HBG.out.2.2.1 HBG.out.2.2.2.1).kept ((KeepBut.refl _ B none).set_ 1 (.string x.f1)) HBG.out.2.2.1 HBG.out.2.2.2.1).kept ((KeepBut.refl _ B none).set_ 2 (.slice A2 x.f2.length c2)) HBG.out.2.2.1 HBG.out.2.2.2.1).kept ((KeepBut.refl _ B none).set_ 3 (.slice A3 x.f3.length c3)) HBG.out.2.2.1 HBG.out.2.2.2.1)
        have n5_ := Aside0.mk (((((below_step HB2.out HBB.out).setCell (p := ⟨B, 0, none⟩) HBG.out.2.1 (.string x.f0)).setCell (p := ⟨B, 1, none⟩) HBG.out.2.1 (.string x.f1)).setCell (p := ⟨B, 2, none⟩) HBG.out.2.1 (.slice A2 x.f2.length c2)).setCell (p := ⟨B, 3, none⟩) HBG.out.2.1 (.slice A3 x.f3.length c3))
        have n6_ := Aside0.mk (blk_put (cs' := #[.string x.f0, .string x.f1, .slice A2 x.f2.length c2, .slice A3 x.f3.length c3]) (blk_put (cs' := #[.string x.f0, .string x.f1, .slice A2 x.f2.length c2, .slice none 0 0]) (blk_put (cs' := #[.string x.f0, .string x.f1, .slice none 0 0, .slice none 0 0]) (blk_put (cs' := #[.string x.f0, .string ⟨#[]⟩, .slice none 0 0, .slice none 0 0]) HBX.out 0 (.string x.f0) rfl) 1 (.string x.f1) rfl) 2 (.slice A2 x.f2.length c2) rfl) 3 (.slice A3 x.f3.length c3) rfl)
        have n7_ := Aside0.mk (blk_far (blk_far (blk_far (blk_far (blk_below HX2.out HBB.out) HBG.out.2.2.2.2.1 (p := ⟨B, 0, none⟩) (.string x.f0)) HBG.out.2.2.2.2.1 (p := ⟨B, 1, none⟩) (.string x.f1)) HBG.out.2.2.2.2.1 (p := ⟨B, 2, none⟩) (.slice A2 x.f2.length c2)) HBG.out.2.2.2.2.1 (p := ⟨B, 3, none⟩) (.slice A3 x.f3.length c3))
        have n8_ := Aside0.mk (blk_far (blk_far (blk_far (blk_far (blk_below HQ2.out HBB.out) HBG.out.2.2.2.2.2 (p := ⟨B, 0, none⟩) (.string x.f0)) HBG.out.2.2.2.2.2 (p := ⟨B, 1, none⟩) (.string x.f1)) HBG.out.2.2.2.2.2 (p := ⟨B, 2, none⟩) (.slice A2 x.f2.length c2)) HBG.out.2.2.2.2.2 (p := ⟨B, 3, none⟩) (.slice A3 x.f3.length c3))
        clear HS2 H2 H3 HI2 HB2 HBX HBB HX2 HQ2 hq0 hq1 hq2 hq3 hf0 hf1 hf2 hf3
        generalize (((w3.setCell ⟨B, 0, none⟩ (.string x.f0)).setCell ⟨B, 1, none⟩ (.string x.f1)).setCell ⟨B, 2, none⟩ (.slice A2 x.f2.length c2)).setCell ⟨B, 3, none⟩ (.slice A3 x.f3.length c3) = w4_ at n1_ n2_ n3_ n4_ n5_ n6_ n7_ n8_ ⊢
        by_cases hc1 : c1 = 0
        · have hbn : (c1 != 0) = false := bne_eq_false_iff_eq.mpr hc1
          have HC1 := Aside0.mk hc1
          have hq0 := blk_cell n6_.out 0
          have hq1 := blk_cell n6_.out 1
          have hq2 := blk_cell n6_.out 2
          have hq3 := blk_cell n6_.out 3
          have hx1 := blk_cell n7_.out 1
          clear hc1
          have HAP : Aside0 (∀ k, wr.heap.size ≤ k → True ∧ some k ≠ (Value.slice A acc.length c).ownBlock) := ⟨fun k hk => ⟨trivial, fun e_ => by have h_ := (Kd.S_R n1_.out).1 k e_.symm; omega⟩⟩
          have HAQ : Aside0 (Kd.S k40 40 w4_ w.heap.size (fun k => True ∧ ¬ wr.heap.size ≤ k) (.slice A acc.length c) acc) := ⟨Kd.S_mono n1_.out (fun k hk => ⟨trivial, by omega⟩)⟩
          have HMK : Aside0 ((k40).M w4_ w.heap.size (fun k => wr.heap.size ≤ k) x [.string x.f0, .string x.f1, .slice A2 x.f2.length c2, .slice A3 x.f3.length c3]) := ⟨k40_mkM _ _ _ x (Kd.R_lower (Kd.R_mono (Kd.R_bound n2_.out) (fun k hk => hk.2.1)) HWR.out) (Kd.R_lower (Kd.R_mono (Kd.R_bound n3_.out) (fun k hk => hk.2.1)) HWR.out)⟩
          go_wp2_with (first | ((with_reducible refine gate_builtin (b := .append) (xs := #[.tmp 40, .tmp 42]) rfl ?_); at_builtin; refine Kd.S_append k40 (w0 := w) w.heap.size rfl (.tmp 40) (.tmp 42) 22 40 (.agg #[.string ⟨#[]⟩, .string ⟨#[]⟩, .slice none 0 0, .slice none 0 0]) 80 rfl Try.underlying22 info_event rfl (by decide) (by omega) (.slice A acc.length c) acc x [.string x.f0, .string x.f1, .slice A2 x.f2.length c2, .slice A3 x.f3.length c3] (fun _ => True) (fun k => wr.heap.size ≤ k) rfl rfl HMK.out HAP.out (fun _ _ => trivial) HAQ.out n5_.out n5_.out.size (by omega) ?_; intro v w5 ho hb hg hat; obtain ⟨Av, cv, ev_⟩ := Kd.S_slice ho; subst ev_; have HO5 := Aside0.mk ho; have HBl := Aside0.mk hb; have HGR := Aside0.mk hg; have HAT := Aside0.mk hat; have HXG := Aside0.mk (blk_grown n7_.out hg (Kd.S_ne n1_.out n7_.out (by decide))); have HQG := Aside0.mk (blk_grown n8_.out hg (Kd.S_ne n1_.out n8_.out (by decide))); clear ho hb hg hat; have hg1 := blk_cell HXG.out 1; have hgf1 := blk_frozen HXG.out 1))
          have HXX := Aside0.mk (blk_put (cs' := #[.int .i64 a, .slice Av (acc ++ [x]).length cv]) HXG.out 1 (.slice Av (acc ++ [x]).length cv) rfl)
          have HXS := Aside0.mk (S_set HO5.out HXG.out (by decide) 1 (.slice Av (acc ++ [x]).length cv))
          have HXB2 := Aside0.mk (HBl.out.setCell (p := ⟨X, 1, none⟩) HXQ.out.2.2.1 (.slice Av (acc ++ [x]).length cv))
          have HXQ2 := Aside0.mk (blk_far HQG.out HXQ.out.2.1 (p := ⟨X, 1, none⟩) (.slice Av (acc ++ [x]).length cv))
          have HXI := Aside0.mk ((n4_.out.grown HGR.out (by obtain ⟨A', c', hblk, _⟩ := n4_.out; exact Kd.S_ne n1_.out hblk (by decide)) (fun k hk => ne_base HOB.out hk)).kept ((KeepBut.refl _ X none).set_ 1 (.slice Av (acc ++ [x]).length cv)) HXQ.out.1 HXQ.out.2.2.2)
          have HOA := HAT
          rw [List.length_append, List.length_singleton] at HXX HXS HXB2 HXQ2 HXI HOA
          have HOX := Aside0.mk (HGD.out HC1.out).2.2.1
          have HEN := Aside0.mk (HGD.out HC1.out).2.2.2
          have HBF := Aside0.mk (HGD.out HC1.out).2.1
          have HLT := Aside0.mk n4_.out.lt
          go_roundg (17 - acc.length)
          case measure => have := HK.out; omega
          case rel =>
            obtain ⟨rfl, rfl⟩ := HEQ.out HC1.out
            refine ⟨l3, acc ++ [x], .slice Av (acc.length + 1) cv, by rw [List.length_append, List.length_singleton]; go_num, ⟨by rw [List.length_append, List.length_singleton]; omega⟩, ⟨?_⟩, ⟨fun y hy => ?_⟩, HBY3, ⟨?_⟩, HXS, HXX, HXQ2, HXB2, ⟨fun k hk => ?_⟩⟩
            · rw [HLA.out, HEN.out, encEs_append, List.append_assoc]
              have e : encEs [x] = encEv x.f0 x.f1 x.f2 x.f3 := by rw [encEs_cons]; exact List.append_nil _
              rw [e]
            · rcases List.mem_append.1 hy with hy | hy
              · exact HO.out y hy
              · rw [List.mem_singleton.1 hy]; exact HOX.out
            · have h := HXI.out
              rw [HBF.out] at h
              exact h
            · rcases HOA.out with h | ⟨b, h1, h2⟩
              · rw [h] at hk; exact HOB.out k hk
              · rw [h1] at hk
                have := HLT.out
                have e := Option.some.inj hk
                omega
        · have hbn : (c1 != 0) = true := bne_iff_ne.mpr hc1
          have HNO := Aside0.mk (show r1 = z24 ∧ r2 = 2 by
            have h := HH.out
            rw [HER.out hc1] at h
            obtain ⟨h1, h2⟩ := Prod.mk.inj h
            exact ⟨h1.symm, h2.symm⟩)
          clear hc1
          have HQ := n8_
          have HB := n5_
          have hq0 := blk_cell HQ.out 0
          have hq1 := blk_cell HQ.out 1
          have hf0 := blk_frozen HQ.out 0
          have hf1 := blk_frozen HQ.out 1
          go_wp2_with fail
          have HQ9 := blk_put (cs' := #[.int .i64 0, .slice none 0 0]) (blk_put (cs' := #[.int .i64 0, .slice none 0 0]) HQ.out 0 (.int .i64 0) rfl) 1 (.slice none 0 0) rfl
          refine bodyPost_ret (results_ct rfl _ _ Q 24 _ (0, 0) _ rfl HQ9 Try.underlying24 rfl (by kernel_rfl)) rfl ?_
          obtain ⟨rfl, rfl⟩ := HNO.out
          exact ⟨.slice none 0 0, rfl, Kd.S_nil _ _ _ _ _, (HB.out.setCell (p := ⟨Q, 0, none⟩) HWQ.out _).setCell (p := ⟨Q, 1, none⟩) HWQ.out _⟩
      · have d2 : decide ((acc.length : Int) ≤ 16) = false := decide_eq_false (by omega)
        have HEND := Aside0.mk (show n ≤ (acc.length : Int) ∨ 17 ≤ acc.length from .inr (by omega))
        clear hin
        have hx0 := blk_cell HX.out 0
        have hx1 := blk_cell HX.out 1
        obtain ⟨-, hcl, hC⟩ := Kd.S_reads' HS.out
        obtain ⟨⟨p, q⟩, hpq⟩ : ∃ z, z = (if mayB a acc = 0 then (encB a acc, 0) else (([] : List Int), mayB a acc)) := ⟨_, rfl⟩
        have hput : registrarref10_PutG.f a acc = some (p, q) := by rw [hpq]; exact if_pos (List.all_eq_true.2 fun x hx => by unfold fitX2; rw [Bool.and_eq_true, decide_eq_true_iff]; exact (HO.out x hx).fit)
        have HPQ := Aside0.mk hpq
        have HPT := Aside0.mk (registrarref10_PutG.calls a A c acc p q wr hC hcl hput)
        have HNOT := Aside0.mk (ref10_end (by rw [← HL2.out]; exact HLA.out) HO.out (by rw [← HN.out]; exact HEND.out))
        have HYEA := Aside0.mk (ref10_yes (l0 := l0) (acc := acc))
        rw [← HA.out] at HNOT HYEA
        clear hC hcl hput hpq HEND
        go_wp2_with fail
        refine HPT.out.mono ?_
        rintro e w9 ⟨vp, rfl, hR, hb⟩
        have n1_ := Aside0.mk (Kd.S_below HS.out hb)
        have n2_ := Aside0.mk (blk_below HQ.out hb)
        have n4_ := Aside0.mk (below_step HB.out hb)
        have n5_ := Aside0.mk (blk_below HX.out hb)
        obtain ⟨Ap, cp, ep⟩ := Kd.R_slice hR
        subst ep
        obtain ⟨-, hcp, hCp⟩ := Kd.R_reads' hR
        have HRP := Aside0.mk hCp
        have HRL := Aside0.mk (Kd.C_below HR0.out n4_.out)
        clear HS HQ HB HX HI HPT hb hR hcp hCp hx0 hx1
        have HS := n1_
        have HQ := n2_
        have HB := n4_
        have HX := n5_
        clear n1_ n2_ n4_ n5_
        by_cases hq0 : q ≠ 0
        · have b3 : (q != 0) = true := bne_iff_ne.mpr hq0
          have HNO := Aside0.mk (show r1 = z24 ∧ r2 = 2 by
            have h := HH.out
            have hm : ¬ mayB a acc = 0 := fun h0 => by have h2 := HPQ.out; rw [if_pos h0] at h2; exact hq0 (Prod.mk.inj h2).2
            rw [HNOT.out (fun h2 => hm h2.1)] at h
            obtain ⟨h1, h2⟩ := Prod.mk.inj h
            exact ⟨h1.symm, h2.symm⟩)
          clear hq0
          have hq0 := blk_cell HQ.out 0
          have hq1 := blk_cell HQ.out 1
          have hf0 := blk_frozen HQ.out 0
          have hf1 := blk_frozen HQ.out 1
          go_wp2_with fail
          have HQ9 := blk_put (cs' := #[.int .i64 0, .slice none 0 0]) (blk_put (cs' := #[.int .i64 0, .slice none 0 0]) HQ.out 0 (.int .i64 0) rfl) 1 (.slice none 0 0) rfl
          refine bodyPost_ret (results_ct rfl _ _ Q 24 _ (0, 0) _ rfl HQ9 Try.underlying24 rfl (by kernel_rfl)) rfl ?_
          obtain ⟨rfl, rfl⟩ := HNO.out
          exact ⟨.slice none 0 0, rfl, Kd.S_nil _ _ _ _ _, (HB.out.setCell (p := ⟨Q, 0, none⟩) HWQ.out _).setCell (p := ⟨Q, 1, none⟩) HWQ.out _⟩
        have b3 : (q != 0) = false := bne_eq_false_iff_eq.mpr (by simpa using hq0)
        have HMB : Aside0 (mayB a acc = 0 ∧ p = encB a acc) := ⟨by
          have h2 := HPQ.out
          by_cases h0 : mayB a acc = 0
          · rw [if_pos h0] at h2; exact ⟨h0, (Prod.mk.inj h2).1⟩
          · rw [if_neg h0] at h2; have h3 := (Prod.mk.inj h2).2; rw [h3] at hq0; exact absurd h0 (by simpa using hq0)⟩
        clear hq0
        have hbe := bytes_eq (a := p) (b := l0) (by rw [HMB.out.2]; exact encB_bytes _ _) HBY.out
        by_cases hpl : p = l0
        · have b4 : ((strOfNums p).toList != (strOfNums l0).toList) = false := by rw [bne, hbe, decide_eq_true hpl]; rfl
          have b5 : ((strOfNums p).toList == (strOfNums l0).toList) = true := hbe.trans (decide_eq_true hpl)
          have HYES := Aside0.mk (show r1 = ⟨a, acc⟩ ∧ r2 = 0 by
            have h := HH.out
            rw [HYEA.out ⟨HMB.out.1, by rw [← HMB.out.2]; exact hpl⟩] at h
            obtain ⟨h1, h2⟩ := Prod.mk.inj h
            exact ⟨h1.symm, h2.symm⟩)
          clear hpl hbe
          have hx0 := blk_cell HX.out 0
          have hx1 := blk_cell HX.out 1
          have hq0 := blk_cell HQ.out 0
          have hq1 := blk_cell HQ.out 1
          have hf0 := blk_frozen HQ.out 0
          have hf1 := blk_frozen HQ.out 1
          go_wp2_with (first | ((with_reducible refine gate_dst (N := 54) rfl ?_); (try (refine gate_guard (by rfl) ?_; dsimp only)); refine Gen.ev_string' (strOfNums p) rfl 27 9 5 (.tmp 53) rfl Try.underlying27 Try.underlying9 Try.underlying5 rfl HRP.out rfl ?_) | ((with_reducible refine gate_dst (N := 56) rfl ?_); (try (refine gate_guard (by rfl) ?_; dsimp only)); refine Gen.ev_string' (strOfNums l0) rfl 27 9 5 (.tmp 55) rfl Try.underlying27 Try.underlying9 Try.underlying5 rfl HRL.out rfl ?_))
          have HQ9 := blk_put (cs' := #[.int .i64 a, .slice A acc.length c]) (blk_put (cs' := #[.int .i64 a, .slice none 0 0]) HQ.out 0 (.int .i64 a) rfl) 1 (.slice A acc.length c) rfl
          refine bodyPost_ret (results_ct rfl _ _ Q 24 _ (0, 0) _ rfl HQ9 Try.underlying24 rfl (by kernel_rfl)) rfl ?_
          obtain ⟨rfl, rfl⟩ := HYES.out
          exact ⟨.slice A acc.length c, rfl, S_set2 HS.out HQ.out (by decide) _ _, (HB.out.setCell (p := ⟨Q, 0, none⟩) HWQ.out _).setCell (p := ⟨Q, 1, none⟩) HWQ.out _⟩
        · have b4 : ((strOfNums p).toList != (strOfNums l0).toList) = true := by rw [bne, hbe, decide_eq_false hpl]; rfl
          have b5 : ((strOfNums p).toList == (strOfNums l0).toList) = false := hbe.trans (decide_eq_false hpl)
          have HNO := Aside0.mk (show r1 = z24 ∧ r2 = 2 by
            have h := HH.out
            rw [HNOT.out (fun h2 => hpl (HMB.out.2.trans h2.2))] at h
            obtain ⟨h1, h2⟩ := Prod.mk.inj h
            exact ⟨h1.symm, h2.symm⟩)
          clear hpl hbe
          have hq0 := blk_cell HQ.out 0
          have hq1 := blk_cell HQ.out 1
          have hf0 := blk_frozen HQ.out 0
          have hf1 := blk_frozen HQ.out 1
          go_wp2_with (first | ((with_reducible refine gate_dst (N := 54) rfl ?_); (try (refine gate_guard (by rfl) ?_; dsimp only)); refine Gen.ev_string' (strOfNums p) rfl 27 9 5 (.tmp 53) rfl Try.underlying27 Try.underlying9 Try.underlying5 rfl HRP.out rfl ?_) | ((with_reducible refine gate_dst (N := 56) rfl ?_); (try (refine gate_guard (by rfl) ?_; dsimp only)); refine Gen.ev_string' (strOfNums l0) rfl 27 9 5 (.tmp 55) rfl Try.underlying27 Try.underlying9 Try.underlying5 rfl HRL.out rfl ?_))
          have HQ9 := blk_put (cs' := #[.int .i64 0, .slice none 0 0]) (blk_put (cs' := #[.int .i64 0, .slice none 0 0]) HQ.out 0 (.int .i64 0) rfl) 1 (.slice none 0 0) rfl
          refine bodyPost_ret (results_ct rfl _ _ Q 24 _ (0, 0) _ rfl HQ9 Try.underlying24 rfl (by kernel_rfl)) rfl ?_
          obtain ⟨rfl, rfl⟩ := HNO.out
          exact ⟨.slice none 0 0, rfl, Kd.S_nil _ _ _ _ _, (HB.out.setCell (p := ⟨Q, 0, none⟩) HWQ.out _).setCell (p := ⟨Q, 1, none⟩) HWQ.out _⟩
    · have d1 : decide ((acc.length : Int) < n) = false := decide_eq_false hin
      have HEND := Aside0.mk (show n ≤ (acc.length : Int) ∨ 17 ≤ acc.length from .inl (by omega))
      clear hin
      have hx0 := blk_cell HX.out 0
      have hx1 := blk_cell HX.out 1
      obtain ⟨-, hcl, hC⟩ := Kd.S_reads' HS.out
      obtain ⟨⟨p, q⟩, hpq⟩ : ∃ z, z = (if mayB a acc = 0 then (encB a acc, 0) else (([] : List Int), mayB a acc)) := ⟨_, rfl⟩
      have hput : registrarref10_PutG.f a acc = some (p, q) := by rw [hpq]; exact if_pos (List.all_eq_true.2 fun x hx => by unfold fitX2; rw [Bool.and_eq_true, decide_eq_true_iff]; exact (HO.out x hx).fit)
      have HPQ := Aside0.mk hpq
      have HPT := Aside0.mk (registrarref10_PutG.calls a A c acc p q wr hC hcl hput)
      have HNOT := Aside0.mk (ref10_end (by rw [← HL2.out]; exact HLA.out) HO.out (by rw [← HN.out]; exact HEND.out))
      have HYEA := Aside0.mk (ref10_yes (l0 := l0) (acc := acc))
      rw [← HA.out] at HNOT HYEA
      clear hC hcl hput hpq HEND
      go_wp2_with fail
      refine HPT.out.mono ?_
      rintro e w9 ⟨vp, rfl, hR, hb⟩
      have n1_ := Aside0.mk (Kd.S_below HS.out hb)
      have n2_ := Aside0.mk (blk_below HQ.out hb)
      have n4_ := Aside0.mk (below_step HB.out hb)
      have n5_ := Aside0.mk (blk_below HX.out hb)
      obtain ⟨Ap, cp, ep⟩ := Kd.R_slice hR
      subst ep
      obtain ⟨-, hcp, hCp⟩ := Kd.R_reads' hR
      have HRP := Aside0.mk hCp
      have HRL := Aside0.mk (Kd.C_below HR0.out n4_.out)
      clear HS HQ HB HX HI HPT hb hR hcp hCp hx0 hx1
      have HS := n1_
      have HQ := n2_
      have HB := n4_
      have HX := n5_
      clear n1_ n2_ n4_ n5_
      by_cases hq0 : q ≠ 0
      · have b3 : (q != 0) = true := bne_iff_ne.mpr hq0
        have HNO := Aside0.mk (show r1 = z24 ∧ r2 = 2 by
          have h := HH.out
          have hm : ¬ mayB a acc = 0 := fun h0 => by have h2 := HPQ.out; rw [if_pos h0] at h2; exact hq0 (Prod.mk.inj h2).2
          rw [HNOT.out (fun h2 => hm h2.1)] at h
          obtain ⟨h1, h2⟩ := Prod.mk.inj h
          exact ⟨h1.symm, h2.symm⟩)
        clear hq0
        have hq0 := blk_cell HQ.out 0
        have hq1 := blk_cell HQ.out 1
        have hf0 := blk_frozen HQ.out 0
        have hf1 := blk_frozen HQ.out 1
        go_wp2_with fail
        have HQ9 := blk_put (cs' := #[.int .i64 0, .slice none 0 0]) (blk_put (cs' := #[.int .i64 0, .slice none 0 0]) HQ.out 0 (.int .i64 0) rfl) 1 (.slice none 0 0) rfl
        refine bodyPost_ret (results_ct rfl _ _ Q 24 _ (0, 0) _ rfl HQ9 Try.underlying24 rfl (by kernel_rfl)) rfl ?_
        obtain ⟨rfl, rfl⟩ := HNO.out
        exact ⟨.slice none 0 0, rfl, Kd.S_nil _ _ _ _ _, (HB.out.setCell (p := ⟨Q, 0, none⟩) HWQ.out _).setCell (p := ⟨Q, 1, none⟩) HWQ.out _⟩
      have b3 : (q != 0) = false := bne_eq_false_iff_eq.mpr (by simpa using hq0)
      have HMB : Aside0 (mayB a acc = 0 ∧ p = encB a acc) := ⟨by
        have h2 := HPQ.out
        by_cases h0 : mayB a acc = 0
        · rw [if_pos h0] at h2; exact ⟨h0, (Prod.mk.inj h2).1⟩
        · rw [if_neg h0] at h2; have h3 := (Prod.mk.inj h2).2; rw [h3] at hq0; exact absurd h0 (by simpa using hq0)⟩
      clear hq0
      have hbe := bytes_eq (a := p) (b := l0) (by rw [HMB.out.2]; exact encB_bytes _ _) HBY.out
      by_cases hpl : p = l0
      · have b4 : ((strOfNums p).toList != (strOfNums l0).toList) = false := by rw [bne, hbe, decide_eq_true hpl]; rfl
        have b5 : ((strOfNums p).toList == (strOfNums l0).toList) = true := hbe.trans (decide_eq_true hpl)
        have HYES := Aside0.mk (show r1 = ⟨a, acc⟩ ∧ r2 = 0 by
          have h := HH.out
          rw [HYEA.out ⟨HMB.out.1, by rw [← HMB.out.2]; exact hpl⟩] at h
          obtain ⟨h1, h2⟩ := Prod.mk.inj h
          exact ⟨h1.symm, h2.symm⟩)
        clear hpl hbe
        have hx0 := blk_cell HX.out 0
        have hx1 := blk_cell HX.out 1
        have hq0 := blk_cell HQ.out 0
        have hq1 := blk_cell HQ.out 1
        have hf0 := blk_frozen HQ.out 0
        have hf1 := blk_frozen HQ.out 1
        go_wp2_with (first | ((with_reducible refine gate_dst (N := 54) rfl ?_); (try (refine gate_guard (by rfl) ?_; dsimp only)); refine Gen.ev_string' (strOfNums p) rfl 27 9 5 (.tmp 53) rfl Try.underlying27 Try.underlying9 Try.underlying5 rfl HRP.out rfl ?_) | ((with_reducible refine gate_dst (N := 56) rfl ?_); (try (refine gate_guard (by rfl) ?_; dsimp only)); refine Gen.ev_string' (strOfNums l0) rfl 27 9 5 (.tmp 55) rfl Try.underlying27 Try.underlying9 Try.underlying5 rfl HRL.out rfl ?_))
        have HQ9 := blk_put (cs' := #[.int .i64 a, .slice A acc.length c]) (blk_put (cs' := #[.int .i64 a, .slice none 0 0]) HQ.out 0 (.int .i64 a) rfl) 1 (.slice A acc.length c) rfl
        refine bodyPost_ret (results_ct rfl _ _ Q 24 _ (0, 0) _ rfl HQ9 Try.underlying24 rfl (by kernel_rfl)) rfl ?_
        obtain ⟨rfl, rfl⟩ := HYES.out
        exact ⟨.slice A acc.length c, rfl, S_set2 HS.out HQ.out (by decide) _ _, (HB.out.setCell (p := ⟨Q, 0, none⟩) HWQ.out _).setCell (p := ⟨Q, 1, none⟩) HWQ.out _⟩
      · have b4 : ((strOfNums p).toList != (strOfNums l0).toList) = true := by rw [bne, hbe, decide_eq_false hpl]; rfl
        have b5 : ((strOfNums p).toList == (strOfNums l0).toList) = false := hbe.trans (decide_eq_false hpl)
        have HNO := Aside0.mk (show r1 = z24 ∧ r2 = 2 by
          have h := HH.out
          rw [HNOT.out (fun h2 => hpl (HMB.out.2.trans h2.2))] at h
          obtain ⟨h1, h2⟩ := Prod.mk.inj h
          exact ⟨h1.symm, h2.symm⟩)
        clear hpl hbe
        have hq0 := blk_cell HQ.out 0
        have hq1 := blk_cell HQ.out 1
        have hf0 := blk_frozen HQ.out 0
        have hf1 := blk_frozen HQ.out 1
        go_wp2_with (first | ((with_reducible refine gate_dst (N := 54) rfl ?_); (try (refine gate_guard (by rfl) ?_; dsimp only)); refine Gen.ev_string' (strOfNums p) rfl 27 9 5 (.tmp 53) rfl Try.underlying27 Try.underlying9 Try.underlying5 rfl HRP.out rfl ?_) | ((with_reducible refine gate_dst (N := 56) rfl ?_); (try (refine gate_guard (by rfl) ?_; dsimp only)); refine Gen.ev_string' (strOfNums l0) rfl 27 9 5 (.tmp 55) rfl Try.underlying27 Try.underlying9 Try.underlying5 rfl HRL.out rfl ?_))
        have HQ9 := blk_put (cs' := #[.int .i64 0, .slice none 0 0]) (blk_put (cs' := #[.int .i64 0, .slice none 0 0]) HQ.out 0 (.int .i64 0) rfl) 1 (.slice none 0 0) rfl
        refine bodyPost_ret (results_ct rfl _ _ Q 24 _ (0, 0) _ rfl HQ9 Try.underlying24 rfl (by kernel_rfl)) rfl ?_
        obtain ⟨rfl, rfl⟩ := HNO.out
        exact ⟨.slice none 0 0, rfl, Kd.S_nil _ _ _ _ _, (HB.out.setCell (p := ⟨Q, 0, none⟩) HWQ.out _).setCell (p := ⟨Q, 1, none⟩) HWQ.out _⟩
end Go.Proofs.Ytafeakcajhhkoaa.Prt
namespace Go.Proofs.Ytafeakcajhhkoaa.Prt
open Go.RowKit Go.Proofs.YtafeakcajhhkoaaW.PrintWords Go.Proofs.YtafeakcajhhkoaaW.PrintLast Go.Proofs.YtafeakcajhhkoaaW.PrintMore Go.Proofs.Ytafeakcajhhkoaa.Num Go.Proofs.Ytafeakcajhhkoaa.Nam
set_option linter.unusedVariables false
set_option linter.unusedSimpArgs false

def registrarref10_Take.f (l0 : List Int) : Option (Int × (List (S40)) × Int) := if byteB l0 = true ∧ l0.length ≤ 1000000000000 then some ((takeB l0).1.f0, (takeB l0).1.f1, (takeB l0).2) else none
theorem registrarref10_Take.calls (A0 : Option Addr) (c0 : Nat) (l0 : List Int) (r1 : Int) (r2 : List (S40)) (r3 : Int) (w : World) (hr0 : Kd.C (Kd.int .u8) w A0 l0.length l0) (hc0 : l0.length ≤ c0) (h : registrarref10_Take.f l0 = some (r1, r2, r3)) :
    Calls Try.prog 19 #[.slice A0 l0.length c0] w fun e w' => ∃ v1_ : Value, e = .returned (.tuple #[.agg #[.int .i64 r1, v1_], .int .i64 r3]) ∧ Kd.S k40 40 w' w.heap.size (fun _ => True) v1_ r2 ∧ Below w.heap.size w w' := by
  unfold registrarref10_Take.f at h
  by_cases hc : byteB l0 = true ∧ l0.length ≤ 1000000000000
  · rw [if_pos hc] at h
    have h2 := Option.some.inj h
    simp only [Prod.mk.injEq] at h2
    obtain ⟨rfl, rfl, rfl⟩ := h2
    exact refTake10_calls A0 c0 l0 w hr0 hc0 (byteB_iff.1 hc.1) hc.2 (takeB l0).1 (takeB l0).2 rfl
  · rw [if_neg hc] at h; cases h
end Go.Proofs.Ytafeakcajhhkoaa.Prt

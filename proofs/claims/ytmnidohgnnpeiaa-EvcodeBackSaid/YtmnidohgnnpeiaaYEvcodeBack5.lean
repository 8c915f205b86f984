/- Functions of the program, told as plain functions, with their walks: written by a program of this claim's out of the translation. The statement EvcodeBack, of plain functions. Arguments of any shape, opened: what reads as data lies in memory as a list, a struct, a text .. Arguments that are events, opened. Arguments that are rows of events, opened. The statement EvcodeBack: the walk of the law. -/
import Derived.ChangeArms
import Derived.OpenShut
import Derived.DataReads
import Derived.Deep.Slices
import Derived.Test.YtmnidohgnnpeiaaYEvcodeBack1
import Derived.Test.YtmnidohgnnpeiaaYEvcodeBack2
import Derived.Test.YtmnidohgnnpeiaaYEvcodeBack3
import Derived.Test.YtmnidohgnnpeiaaYEvcodeBack4
namespace Go.Proofs.Ytmnidohgnnpeiaa.Prt
open Go.RowKit Go.Proofs.YtmnidohgnnpeiaaW.PrintWords Go.Proofs.YtmnidohgnnpeiaaW.PrintLast Go.Proofs.YtmnidohgnnpeiaaW.PrintMore
attribute [local go_sem] max2_int min2_int max_two min_two max_three min_three max_four min_four   -- for this text's walks alone
set_option linter.unusedVariables false
set_option linter.unusedSimpArgs false

mutual
def registrarlaw05_EvcodeBack.l0 : Nat → List (S26) → Int → Bool → List Int → List (S26) → List Int → Int → Option (Bool)
  | 0, _, _, _, _, _, _, _ => none
  | k + 1, x0, x1, x5, x6, x7, x8, x9 => if x9 < (x0.length : Int) then (registrarlaw05_EvcodeBack.j1 k x0 x1 x5 x6 x7 x8 x9 (decide (x9 < 12))) else (registrarlaw05_EvcodeBack.j1 k x0 x1 x5 x6 x7 x8 x9 false)
def registrarlaw05_EvcodeBack.j1 : Nat → List (S26) → Int → Bool → List Int → List (S26) → List Int → Int → Bool → Option (Bool)
  | 0, _, _, _, _, _, _, _, _ => none
  | k + 1, x0, x1, x5, x6, x7, x8, x9, x30 => if x30 = true then (if 0 ≤ x9 then (if x9 < (x0.length : Int) then ((registrarlaw05_few.f ((rd_T26 x0 x9).f0) ((rd_T26 x0 x9).f1) ((rd_T26 x0 x9).f2) ((rd_T26 x0 x9).f3)).bind fun bt349 => ((evcode_PutG.f x6 bt349.1 bt349.2.1 bt349.2.2.1 bt349.2.2.2).bind fun bt357 => (if bt357.2 = 0 then ((registrarlaw05_few.f ((rd_T26 x0 x9).f0) ((rd_T26 x0 x9).f1) ((rd_T26 x0 x9).f2) ((rd_T26 x0 x9).f3)).bind fun bt362 => (if x7.length < 1759218604441 then (if x8.length < 17592186044416 then (registrarlaw05_EvcodeBack.l0 k x0 x1 x5 bt357.1 (x7 ++ [(⟨bt362.1, bt362.2.1, bt362.2.2.1, bt362.2.2.2⟩ : S26)]) (x8 ++ [(bt357.1.length : Int)]) (wrap64 (x9 + 1))) else (none)) else (none))) else (if (bt357.1.length : Int) = 0 then (registrarlaw05_EvcodeBack.l0 k x0 x1 x5 x6 x7 x8 (wrap64 (x9 + 1))) else (some false))))) else (none)) else (none)) else ((evcode_All.f x6).bind fun bt376 => ((registrarref04_SameAllG.f bt376.1 x7).bind fun t380 => (if x5 = true then (if bt376.2 = 0 then (registrarlaw05_EvcodeBack.j2 k x1 x6 x7 x8 (!t380)) else (registrarlaw05_EvcodeBack.j2 k x1 x6 x7 x8 true)) else (registrarlaw05_EvcodeBack.j2 k x1 x6 x7 x8 true))))
def registrarlaw05_EvcodeBack.j2 : Nat → Int → List Int → List (S26) → List Int → Bool → Option (Bool)
  | 0, _, _, _, _, _ => none
  | k + 1, x1, x6, x7, x8, x79 => if x79 = true then (some false) else (if x1 < 0 then (registrarlaw05_EvcodeBack.j3 k x1 x6 x7 x8 true) else (registrarlaw05_EvcodeBack.j3 k x1 x6 x7 x8 (decide (x1 ≥ (x6.length : Int)))))
def registrarlaw05_EvcodeBack.j3 : Nat → Int → List Int → List (S26) → List Int → Bool → Option (Bool)
  | 0, _, _, _, _, _ => none
  | k + 1, x1, x6, x7, x8, x87 => if x87 = true then (some true) else (registrarlaw05_EvcodeBack.l1 k x1 x6 x7 x8 (-1) 0)
def registrarlaw05_EvcodeBack.l1 : Nat → Int → List Int → List (S26) → List Int → Int → Int → Option (Bool)
  | 0, _, _, _, _, _, _ => none
  | k + 1, x1, x6, x7, x8, x15, x16 => if x16 < (x8.length : Int) then (if 0 ≤ x16 then (if (rd x8 x16) = x1 then (registrarlaw05_EvcodeBack.l1 k x1 x6 x7 x8 x16 (wrap64 (x16 + 1))) else (registrarlaw05_EvcodeBack.l1 k x1 x6 x7 x8 x15 (wrap64 (x16 + 1)))) else (none)) else (if 0 ≤ x1 then (if x1 ≤ (x6.length : Int) then ((evcode_All.f (x6.take (x1 : Int).toNat)).bind fun bt387 => (if x15 < 0 then (if bt387.2 = 2 then (some ((bt387.1.length : Int) == 0)) else (some false)) else (if bt387.2 = 0 then (if 0 ≤ x15 then (if x15 ≤ (x7.length : Int) then ((registrarref04_SameAllG.f bt387.1 (x7.take (x15 : Int).toNat)).bind fun t396 => (some t396)) else (none)) else (none)) else (some false)))) else (none)) else (none))
end
def registrarlaw05_EvcodeBack.f (k : Nat) (l0 : List (S26)) (a1 : Int) : Option (Bool) := (registrarlaw05_shown.f).bind fun t338 => (registrarlaw05_EvcodeBack.l0 k l0 a1 t338 (([] : List Int)) (([] : List (S26))) (([0] : List Int)) 0)
set_option maxHeartbeats 8000000 in
set_option maxRecDepth 100000 in
theorem registrarlaw05_EvcodeBack.calls (k : Nat) (A0 : Option Addr) (c0 : Nat) (l0 : List (S26)) (a1 : Int) (r : Bool) (w : World) (hr0 : Kd.C k26 w A0 l0.length l0) (hc0 : l0.length ≤ c0) (h : registrarlaw05_EvcodeBack.f k l0 a1 = some r) :
    Calls Try.prog 7 #[.slice A0 l0.length c0, .int .i64 a1] w fun e w' => e = .returned (.bool r) ∧ Below w.heap.size w w' := by
  have hu26 := Try.underlying26
  have HR0 := Aside0.mk hr0
  have HC0 := Aside0.mk hc0
  clear hr0 hc0
  have HB := Aside0.mk (Below.refl w.heap.size w)
  have H : ((registrarlaw05_shown.f).bind fun t338 => (registrarlaw05_EvcodeBack.l0 k l0 a1 t338 (([] : List Int)) (([] : List (S26))) (([0] : List Int)) 0)) = some r := h
  clear h
  replace H := Option.bind_eq_some_iff.mp H
  obtain ⟨t338, A30, H⟩ := H
  replace H : (registrarlaw05_EvcodeBack.l0 k l0 a1 t338 (([] : List Int)) (([] : List (S26))) (([0] : List Int)) 0) = some r := H
  have A3 := Aside0.mk A30
  clear A30
  obtain ⟨y339, hy339⟩ : ∃ y_ : List Int, y_ = (([] : List Int)) := ⟨_, rfl⟩
  replace H : (registrarlaw05_EvcodeBack.l0 k l0 a1 t338 y339 (([] : List (S26))) (([0] : List Int)) 0) = some r := by first | (rw [hy339]; with_reducible exact H) | (have H2_ := (Option.bind_some _ _).symm.trans H; rw [hy339]; with_reducible exact H2_) | (have H2_ := (Option.bind_some _ _).symm.trans H; with_reducible exact H2_) | with_reducible exact H | (rw [hy339]; exact H) | exact H
  have Ny339 := Aside0.mk hy339
  clear hy339
  obtain ⟨y342, hy342⟩ : ∃ y_ : List (S26), y_ = (([] : List (S26))) := ⟨_, rfl⟩
  replace H : (registrarlaw05_EvcodeBack.l0 k l0 a1 t338 y339 y342 (([0] : List Int)) 0) = some r := by first | (rw [hy342]; with_reducible exact H) | (have H2_ := (Option.bind_some _ _).symm.trans H; rw [hy342]; with_reducible exact H2_) | (have H2_ := (Option.bind_some _ _).symm.trans H; with_reducible exact H2_) | with_reducible exact H | (rw [hy342]; exact H) | exact H
  have Ny342 := Aside0.mk hy342
  clear hy342
  obtain ⟨y345, hy345⟩ : ∃ y_ : List Int, y_ = (([0] : List Int)) := ⟨_, rfl⟩
  replace H : (registrarlaw05_EvcodeBack.l0 k l0 a1 t338 y339 y342 y345 0) = some r := by first | (rw [hy345]; with_reducible exact H) | (have H2_ := (Option.bind_some _ _).symm.trans H; rw [hy345]; with_reducible exact H2_) | (have H2_ := (Option.bind_some _ _).symm.trans H; with_reducible exact H2_) | with_reducible exact H | (rw [hy345]; exact H) | exact H
  have Ny345 := Aside0.mk hy345
  clear hy345
  have H' := Aside0.mk H
  clear H
  go_enter Try.func7, Try.ntmps7
  go_wp2_with (first | ((with_reducible refine gate_callee (f := 9) rfl ?_); refine goesL_ (some 19) rfl rfl Try.func9 (by kernel_rfl) rfl #[] rfl (by (try simp only [List.map_toArray, List.map_cons, List.map_nil]); first | done | rfl | (simp only [List.length_drop, List.length_take]; rfl)) ?_; (with_reducible refine (registrarlaw05_shown.calls  t338 _ A3.out).mono ?_); rintro e w4 ⟨rfl, hb⟩; refine ⟨_, rfl, ?_⟩; have n0_ := Aside0.mk (below_step (by repeat (first | (with_reducible first | exact HB.out | apply below_alloc | apply pw_below_drewN | apply below_drew1) | exact HB.out)) hb); clear HB; have HB := n0_; clear n0_; (try clear hb); (try clear hb2); (try clear hk); (try clear hi)) | ((with_reducible refine gate_dst (N := 20) rfl ?_); (try (refine gate_guard (by rfl) ?_; dsimp only)); refine Kd.R_lit (Kd.int .u8) _ 5 ?hg (N := 20) ?hd (xs := ([] : List Int)) (inner := []) (ok := fun _ => True) (okp := fun _ => True) ?hr ?hp (fun _ hk => hk) trivial (Below.refl _ _) (Nat.le_refl _) (by simp) ?_; (case hd => rfl); (case hg => rfl); (case hr => first | (go_simp; done) | (go_simp; rfl)); (case hp => exact (Reps.none _ _)); intro v340 w5 ho6 hb hg_ hnew_; clear hg_ hnew_; (first | rw [← Ny339.out] at ho6 | (simp only [Int.reduceToNat] at ho6; rw [← Ny339.out] at ho6)); have n0_ := Aside0.mk (Kd.R_lower ho6 (below_size (by repeat (first | (with_reducible first | exact HB.out | apply below_alloc | apply pw_below_drewN | apply below_drew1) | exact HB.out)))); have n1_ := Aside0.mk (below_step (by repeat (first | (with_reducible first | exact HB.out | apply below_alloc | apply pw_below_drewN | apply below_drew1) | exact HB.out)) hb); clear HB; have HO341 := n0_; have HB := n1_; clear n0_ n1_; clear hb ho6) | ((with_reducible refine gate_dst (N := 21) rfl ?_); (try (refine gate_guard (by rfl) ?_; dsimp only)); refine Kd.N_lit k26 _ 26 ?hg (N' := 21) ?hd (xs := ([] : List (S26))) (inner := []) (ok := (fun k_ => some k_ ≠ (v340 : Value).ownBlock)) (okp := (fun k_ => some k_ ≠ (v340 : Value).ownBlock)) ?hr ?hp (fun _ hk => hk) ((show ∀ k_, w5.heap.size ≤ k_ → (fun k_ => some k_ ≠ (v340 : Value).ownBlock) k_ from fun k_ hk => Kd.fresh' (Kd.R_lt (by (with_reducible repeat (first | apply Kd.R_alloc | apply Kd.R_drewN | apply Kd.R_drew)); exact HO341.out)) k_ hk) _ (Nat.le_refl _)) (Below.refl _ _) (Nat.le_refl _) (by simp) ?_; (case hd => rfl); (case hg => rfl); (case hr => first | (go_simp; done) | (go_simp; rfl)); (case hp => exact (Reps.none _ _)); intro v343 w7 ho8 hb hg_ hnew_; clear hg_ hnew_; (first | rw [← Ny342.out] at ho8 | (simp only [Int.reduceToNat] at ho8; rw [← Ny342.out] at ho8)); have n0_ := Aside0.mk (Kd.R_below (by (with_reducible repeat (first | apply Kd.R_alloc | apply Kd.R_drewN | apply Kd.R_drew)); exact HO341.out) hb); have n1_ := Aside0.mk (Kd.N_lower ho8 (below_size (by repeat (first | (with_reducible first | exact HB.out | apply below_alloc | apply pw_below_drewN | apply below_drew1) | exact HB.out)))); have n2_ := Aside0.mk (below_step (by repeat (first | (with_reducible first | exact HB.out | apply below_alloc | apply pw_below_drewN | apply below_drew1) | exact HB.out)) hb); clear HO341; clear HB; have HO341 := n0_; have HO344 := n1_; have HB := n2_; clear n0_ n1_ n2_; clear hb ho8) | ((with_reducible refine gate_dst (N := 22) rfl ?_); (try (refine gate_guard (by rfl) ?_; dsimp only)); refine Kd.R_lit (Kd.int .i64) _ 3 ?hg (N := 22) ?hd (xs := ([0] : List Int)) (inner := [.int .i64 0]) (ok := fun _ => True) (okp := fun _ => True) ?hr ?hp (fun _ hk => hk) trivial (Below.refl _ _) (Nat.le_refl _) (by simp) ?_; (case hd => rfl); (case hg => rfl); (case hr => first | (go_simp; done) | (go_simp; rfl)); (case hp => exact (Reps.one (show Kd.M (Kd.int .i64) _ _ _ 0 [.int .i64 0] from rfl) (Reps.none _ _))); intro v346 w9 ho10 hb hg_ hnew_; clear hg_ hnew_; (first | rw [← Ny345.out] at ho10 | (simp only [Int.reduceToNat] at ho10; rw [← Ny345.out] at ho10)); have n0_ := Aside0.mk (Kd.R_below (by (with_reducible repeat (first | apply Kd.R_alloc | apply Kd.R_drewN | apply Kd.R_drew)); exact HO341.out) hb); have n1_ := Aside0.mk (Kd.N_elder' (by (with_reducible repeat (first | apply Kd.N_alloc | apply Kd.N_drewN | apply Kd.N_drew)); exact HO344.out) (Kd.R_base ho10) hb); have n2_ := Aside0.mk (Kd.R_lower ho10 (below_size (by repeat (first | (with_reducible first | exact HB.out | apply below_alloc | apply pw_below_drewN | apply below_drew1) | exact HB.out)))); have n3_ := Aside0.mk (below_step (by repeat (first | (with_reducible first | exact HB.out | apply below_alloc | apply pw_below_drewN | apply below_drew1) | exact HB.out)) hb); clear HO341; clear HO344; clear HB; have HO341 := n0_; have HO344 := n1_; have HO347 := n2_; have HB := n3_; clear n0_ n1_ n2_ n3_; clear hb ho10))
  go_loopg [6, 7, 8, 9] k (fun kq v6 v7 v8 v9 w' => ∃ (x6_1 : List Int) (x7_1 : List (S26)) (x8_1 : List Int) (x9_1 : Int), v9 = .int .i64 x9_1 ∧ Aside0 (registrarlaw05_EvcodeBack.l0 kq l0 a1 t338 x6_1 x7_1 x8_1 x9_1 = some r) ∧ Aside0 (kq ≤ k) ∧ Aside0 (Kd.R (Kd.int .u8) 5 w' w.heap.size (fun _ => True) v6 x6_1) ∧ Aside0 (Kd.N k26 26 w' w.heap.size (fun k_ => some k_ ≠ (v6 : Value).ownBlock ∧ some k_ ≠ (v8 : Value).ownBlock) v7 x7_1) ∧ Aside0 (Kd.R (Kd.int .i64) 3 w' w.heap.size (fun _ => True) v8 x8_1) ∧ Aside0 (Below w.heap.size w w'))
  case atStart => exact ⟨(y339), (y342), (y345), (0), (by first | rfl | (simp; done) | (simp [*]; done)), H', ⟨Nat.le_refl _⟩, ⟨by (with_reducible repeat (first | apply Kd.R_alloc | apply Kd.R_drewN | apply Kd.R_drew)); exact HO341.out⟩, ⟨by (with_reducible repeat (first | apply Kd.N_alloc | apply Kd.N_drewN | apply Kd.N_drew)); exact HO344.out⟩, ⟨by (with_reducible repeat (first | apply Kd.R_alloc | apply Kd.R_drewN | apply Kd.R_drew)); exact HO347.out⟩, ⟨by repeat (first | (with_reducible first | exact HB.out | apply below_alloc | apply pw_below_drewN | apply below_drew1) | exact HB.out)⟩⟩
  case round =>
    clear H'
    try clear p2
    try clear c7
    try clear c9
    obtain ⟨x6_1, x7_1, x8_1, x9_1, rfl, HA, HK1, HO_6, HO_7, HO_8, HB⟩ := hrel
    cases gk with
    | zero => exact absurd HA.out (by simp [registrarlaw05_EvcodeBack.l0])
    | succ k1 =>
      have H := HA.out
      clear HA
      simp only [registrarlaw05_EvcodeBack.l0] at H
      have HC11 := Aside0.mk H
      clear H
      go_upto_region 6 with (fail)
      go_cut [30] (fun v30 wc => ∃ (kq : Nat) (x30_10 : Bool), v30 = .bool x30_10 ∧ Aside0 (registrarlaw05_EvcodeBack.j1 kq l0 a1 t338 x6_1 x7_1 x8_1 x9_1 x30_10 = some r) ∧ Aside0 (kq ≤ k1) ∧ Aside0 (Kd.R (Kd.int .u8) 5 wc w.heap.size (fun _ => True) u6 x6_1) ∧ Aside0 (Kd.N k26 26 wc w.heap.size (fun k_ => some k_ ≠ (u6 : Value).ownBlock ∧ some k_ ≠ (u8 : Value).ownBlock) u7 x7_1) ∧ Aside0 (Kd.R (Kd.int .i64) 3 wc w.heap.size (fun _ => True) u8 x8_1) ∧ Aside0 (Below w.heap.size w wc))
      case first =>
        have H := HC11.out
        clear HC11
        by_cases c12 : x9_1 < (l0.length : Int)
        · rw [if_pos c12] at H
          have c12b0 : decide (x9_1 < (l0.length : Int)) = true := decide_eq_true c12
          clear c12
          (first | rw [c12b0] | (simp only [i64_w, i32_w]; rw [c12b0]) | skip)
          have H' := Aside0.mk H
          clear H
          go_wp2
          go_meet
          case rel => exact ⟨_, (decide (x9_1 < 12)), (by first | rfl | (simp; done) | (simp [*]; done)), H', ⟨by have := HK1.out; first | omega | exact Nat.le_refl _⟩, ⟨by (with_reducible repeat (first | apply Kd.R_alloc | apply Kd.R_drewN | apply Kd.R_drew)); exact HO_6.out⟩, ⟨by (with_reducible repeat (first | apply Kd.N_alloc | apply Kd.N_drewN | apply Kd.N_drew)); exact HO_7.out⟩, ⟨by (with_reducible repeat (first | apply Kd.R_alloc | apply Kd.R_drewN | apply Kd.R_drew)); exact HO_8.out⟩, ⟨by repeat (first | (with_reducible first | exact HB.out | apply below_alloc | apply pw_below_drewN | apply below_drew1) | exact HB.out)⟩⟩
        · rw [if_neg c12] at H
          have c12b0 : decide (x9_1 < (l0.length : Int)) = false := decide_eq_false c12
          clear c12
          (first | rw [c12b0] | (simp only [i64_w, i32_w]; rw [c12b0]) | skip)
          have H' := Aside0.mk H
          clear H
          go_wp2
          go_meet
          case rel => exact ⟨_, (false), (by first | rfl | (simp; done) | (simp [*]; done)), H', ⟨by have := HK1.out; first | omega | exact Nat.le_refl _⟩, ⟨by (with_reducible repeat (first | apply Kd.R_alloc | apply Kd.R_drewN | apply Kd.R_drew)); exact HO_6.out⟩, ⟨by (with_reducible repeat (first | apply Kd.N_alloc | apply Kd.N_drewN | apply Kd.N_drew)); exact HO_7.out⟩, ⟨by (with_reducible repeat (first | apply Kd.R_alloc | apply Kd.R_drewN | apply Kd.R_drew)); exact HO_8.out⟩, ⟨by repeat (first | (with_reducible first | exact HB.out | apply below_alloc | apply pw_below_drewN | apply below_drew1) | exact HB.out)⟩⟩
      case rest =>
        clear HC11
        try clear c1
        try clear p2
        try clear c7
        try clear c9
        try clear c12
        try clear c12b0
        try clear p2
        obtain ⟨kq, x30_10, rfl, HA, HJ10, HO_6, HO_7, HO_8, HB⟩ := hcut
        cases kq with
        | zero => exact absurd HA.out (by simp [registrarlaw05_EvcodeBack.j1])
        | succ kj10 =>
          have H := HA.out
          clear HA
          simp only [registrarlaw05_EvcodeBack.j1] at H
          by_cases c13 : x30_10 = true
          · subst c13
            have H1 : (if 0 ≤ x9_1 then (if x9_1 < (l0.length : Int) then ((registrarlaw05_few.f ((rd_T26 l0 x9_1).f0) ((rd_T26 l0 x9_1).f1) ((rd_T26 l0 x9_1).f2) ((rd_T26 l0 x9_1).f3)).bind fun bt349 => ((evcode_PutG.f x6_1 bt349.1 bt349.2.1 bt349.2.2.1 bt349.2.2.2).bind fun bt357 => (if bt357.2 = 0 then ((registrarlaw05_few.f ((rd_T26 l0 x9_1).f0) ((rd_T26 l0 x9_1).f1) ((rd_T26 l0 x9_1).f2) ((rd_T26 l0 x9_1).f3)).bind fun bt362 => (if x7_1.length < 1759218604441 then (if x8_1.length < 17592186044416 then (registrarlaw05_EvcodeBack.l0 kj10 l0 a1 t338 bt357.1 (x7_1 ++ [(⟨bt362.1, bt362.2.1, bt362.2.2.1, bt362.2.2.2⟩ : S26)]) (x8_1 ++ [(bt357.1.length : Int)]) (wrap64 (x9_1 + 1))) else (none)) else (none))) else (if (bt357.1.length : Int) = 0 then (registrarlaw05_EvcodeBack.l0 kj10 l0 a1 t338 x6_1 x7_1 x8_1 (wrap64 (x9_1 + 1))) else (some false))))) else (none)) else (none)) = some r := by rw [if_pos rfl] at H; exact H
            clear H
            have H := H1
            clear H1
            by_cases c14 : 0 ≤ x9_1
            · rw [if_pos c14] at H
              have c14b0 : decide (0 ≤ x9_1) = true := decide_eq_true c14
              clear c14
              by_cases c15 : x9_1 < (l0.length : Int)
              · rw [if_pos c15] at H
                have c15b0 : decide (x9_1 < (l0.length : Int)) = true := decide_eq_true c15
                clear c15
                replace H := Option.bind_eq_some_iff.mp H
                obtain ⟨⟨t349, t350, t351, t354⟩, A160, H⟩ := H
                replace H : ((evcode_PutG.f x6_1 t349 t350 t351 t354).bind fun bt357 => (if bt357.2 = 0 then ((registrarlaw05_few.f ((rd_T26 l0 x9_1).f0) ((rd_T26 l0 x9_1).f1) ((rd_T26 l0 x9_1).f2) ((rd_T26 l0 x9_1).f3)).bind fun bt362 => (if x7_1.length < 1759218604441 then (if x8_1.length < 17592186044416 then (registrarlaw05_EvcodeBack.l0 kj10 l0 a1 t338 bt357.1 (x7_1 ++ [(⟨bt362.1, bt362.2.1, bt362.2.2.1, bt362.2.2.2⟩ : S26)]) (x8_1 ++ [(bt357.1.length : Int)]) (wrap64 (x9_1 + 1))) else (none)) else (none))) else (if (bt357.1.length : Int) = 0 then (registrarlaw05_EvcodeBack.l0 kj10 l0 a1 t338 x6_1 x7_1 x8_1 (wrap64 (x9_1 + 1))) else (some false)))) = some r := H
                have A16 := Aside0.mk A160
                clear A160
                replace H := Option.bind_eq_some_iff.mp H
                obtain ⟨⟨t357, t360⟩, A170, H⟩ := H
                replace H : (if t360 = 0 then ((registrarlaw05_few.f ((rd_T26 l0 x9_1).f0) ((rd_T26 l0 x9_1).f1) ((rd_T26 l0 x9_1).f2) ((rd_T26 l0 x9_1).f3)).bind fun bt362 => (if x7_1.length < 1759218604441 then (if x8_1.length < 17592186044416 then (registrarlaw05_EvcodeBack.l0 kj10 l0 a1 t338 t357 (x7_1 ++ [(⟨bt362.1, bt362.2.1, bt362.2.2.1, bt362.2.2.2⟩ : S26)]) (x8_1 ++ [(t357.length : Int)]) (wrap64 (x9_1 + 1))) else (none)) else (none))) else (if (t357.length : Int) = 0 then (registrarlaw05_EvcodeBack.l0 kj10 l0 a1 t338 x6_1 x7_1 x8_1 (wrap64 (x9_1 + 1))) else (some false))) = some r := H
                have A17 := Aside0.mk A170
                clear A170
                by_cases c18 : t360 = 0
                · rw [if_pos c18] at H
                  have c18b0 : (t360 == 0) = true := beq_iff_eq.mpr c18
                  have c18b1 : (t360 != 0) = false := bne_eq_false_iff_eq.mpr c18
                  clear c18
                  replace H := Option.bind_eq_some_iff.mp H
                  obtain ⟨⟨t362, t363, t364, t367⟩, A190, H⟩ := H
                  replace H : (if x7_1.length < 1759218604441 then (if x8_1.length < 17592186044416 then (registrarlaw05_EvcodeBack.l0 kj10 l0 a1 t338 t357 (x7_1 ++ [(⟨t362, t363, t364, t367⟩ : S26)]) (x8_1 ++ [(t357.length : Int)]) (wrap64 (x9_1 + 1))) else (none)) else (none)) = some r := H
                  have A19 := Aside0.mk A190
                  clear A190
                  by_cases c20 : x7_1.length < 1759218604441
                  · rw [if_pos c20] at H
                    have LMc20 := Aside0.mk c20
                    clear c20
                    obtain ⟨y370, hy370⟩ : ∃ y_ : List (S26), y_ = (x7_1 ++ [(⟨t362, t363, t364, t367⟩ : S26)]) := ⟨_, rfl⟩
                    replace H : (if x8_1.length < 17592186044416 then (registrarlaw05_EvcodeBack.l0 kj10 l0 a1 t338 t357 y370 (x8_1 ++ [(t357.length : Int)]) (wrap64 (x9_1 + 1))) else (none)) = some r := by first | (rw [hy370]; with_reducible exact H) | (have H2_ := (Option.bind_some _ _).symm.trans H; rw [hy370]; with_reducible exact H2_) | (have H2_ := (Option.bind_some _ _).symm.trans H; with_reducible exact H2_) | with_reducible exact H | (rw [hy370]; exact H) | exact H
                    have Ny370 := Aside0.mk hy370
                    clear hy370
                    by_cases c21 : x8_1.length < 17592186044416
                    · rw [if_pos c21] at H
                      have LMc21 := Aside0.mk c21
                      clear c21
                      obtain ⟨y373, hy373⟩ : ∃ y_ : List Int, y_ = (x8_1 ++ [(t357.length : Int)]) := ⟨_, rfl⟩
                      replace H : (registrarlaw05_EvcodeBack.l0 kj10 l0 a1 t338 t357 y370 y373 (wrap64 (x9_1 + 1))) = some r := by first | (rw [hy373]; with_reducible exact H) | (have H2_ := (Option.bind_some _ _).symm.trans H; rw [hy373]; with_reducible exact H2_) | (have H2_ := (Option.bind_some _ _).symm.trans H; with_reducible exact H2_) | with_reducible exact H | (rw [hy373]; exact H) | exact H
                      have Ny373 := Aside0.mk hy373
                      clear hy373
                      have H' := Aside0.mk H
                      clear H
                      have p348 : 0 ≤ (x9_1 : Int) := of_decide_eq_true (by first | (with_reducible assumption) | assumption)
                      have q348 : x9_1 < (l0.length : Int) := of_decide_eq_true (by first | (with_reducible assumption) | assumption)
                      obtain ⟨ad348, A348_2, c348_2, A348_3, c348_3, e348, hx348_0, hx348_1, hx348_2, hx348_3, hl348_2, hi348_2, hl348_3, hi348_3⟩ := at_T26 HR0.out x9_1 p348 q348
                      cases e348
                      replace hx348_0 := (HB.out.cell (World.block_lt_of_cell? w _ hx348_0)).trans hx348_0
                      replace hx348_1 := (HB.out.cell (World.block_lt_of_cell? w _ hx348_1)).trans hx348_1
                      replace hx348_2 := (HB.out.cell (World.block_lt_of_cell? w _ hx348_2)).trans hx348_2
                      replace hx348_3 := (HB.out.cell (World.block_lt_of_cell? w _ hx348_3)).trans hx348_3
                      have HR348_2 := Aside0.mk hi348_2
                      have HC348_2 := Aside0.mk hl348_2
                      clear hi348_2 hl348_2
                      have HR348_3 := Aside0.mk hi348_3
                      have HC348_3 := Aside0.mk hl348_3
                      clear hi348_3 hl348_3
                      replace p348 := eq_true p348
                      replace q348 := eq_true q348
                      go_wp2_with (first | ((with_reducible refine gate_callee (f := 11) rfl ?_); refine goesL_ (some 39) rfl rfl Try.func11 (by kernel_rfl) rfl #[.agg #[.string ((rd_T26 l0 x9_1).f0), .string ((rd_T26 l0 x9_1).f1), .slice A348_2 ((rd_T26 l0 x9_1).f2).length c348_2, .slice A348_3 ((rd_T26 l0 x9_1).f3).length c348_3]] rfl (by (try simp only [List.map_toArray, List.map_cons, List.map_nil]); first | done | rfl | (simp only [List.length_drop, List.length_take]; rfl)) ?_; (with_reducible refine (registrarlaw05_few.calls ((rd_T26 l0 x9_1).f0) ((rd_T26 l0 x9_1).f1) (fun k_ => k_ < w.heap.size) _ _ ((rd_T26 l0 x9_1).f2) (fun k_ => k_ < w.heap.size) _ _ ((rd_T26 l0 x9_1).f3) t349 t350 t351 t354 _ ?side1 ?side2 A16.out).mono ?_); (case side1 => exact Kd.V_mk HC348_2.out (Kd.F_below (Kd.C_F Kd.heap_string HR348_2.out) (by repeat (first | (with_reducible first | exact HB.out | apply below_alloc | apply pw_below_drewN | apply below_drew1) | exact HB.out)))); (case side2 => exact Kd.V_mk HC348_3.out (Kd.F_below (Kd.C_F k35_heap HR348_3.out) (by repeat (first | (with_reducible first | exact HB.out | apply below_alloc | apply pw_below_drewN | apply below_drew1) | exact HB.out)))); rintro e w22 ⟨v352, v355, rfl, ho0, ho1, hb⟩; refine ⟨_, rfl, ?_⟩; have n0_ := Aside0.mk (Kd.R_below (by (with_reducible repeat (first | apply Kd.R_alloc | apply Kd.R_drewN | apply Kd.R_drew)); exact HO_6.out) hb); have n1_ := Aside0.mk (Kd.N_below (by (with_reducible repeat (first | apply Kd.N_alloc | apply Kd.N_drewN | apply Kd.N_drew)); exact HO_7.out) hb); have n2_ := Aside0.mk (Kd.R_below (by (with_reducible repeat (first | apply Kd.R_alloc | apply Kd.R_drewN | apply Kd.R_drew)); exact HO_8.out) hb); have n3_ := Aside0.mk (Kd.V_lower (Kd.V_mono (ok' := fun k_ => some k_ ≠ (u6 : Value).ownBlock ∧ some k_ ≠ (u7 : Value).ownBlock ∧ some k_ ≠ (u8 : Value).ownBlock) ho0 (fun k_ hk_ => ⟨Or.elim hk_ (fun hs_ => Or.elim hs_ (fun hs_ => fun e_ => Nat.not_le.2 hs_ (Kd.R_base HO_6.out k_ e_.symm)) (fun hs_ => fun e_ => Nat.not_le.2 hs_ (Kd.R_base HO_6.out k_ e_.symm))) (fun hn_ => (Kd.fresh' (Kd.R_lt (by (with_reducible repeat (first | apply Kd.R_alloc | apply Kd.R_drewN | apply Kd.R_drew)); exact HO_6.out)) k_ hn_)), Or.elim hk_ (fun hs_ => Or.elim hs_ (fun hs_ => fun e_ => Nat.not_le.2 hs_ (Kd.N_base HO_7.out k_ e_.symm)) (fun hs_ => fun e_ => Nat.not_le.2 hs_ (Kd.N_base HO_7.out k_ e_.symm))) (fun hn_ => (Kd.fresh' (Kd.N_lt (by (with_reducible repeat (first | apply Kd.N_alloc | apply Kd.N_drewN | apply Kd.N_drew)); exact HO_7.out)) k_ hn_)), Or.elim hk_ (fun hs_ => Or.elim hs_ (fun hs_ => fun e_ => Nat.not_le.2 hs_ (Kd.R_base HO_8.out k_ e_.symm)) (fun hs_ => fun e_ => Nat.not_le.2 hs_ (Kd.R_base HO_8.out k_ e_.symm))) (fun hn_ => (Kd.fresh' (Kd.R_lt (by (with_reducible repeat (first | apply Kd.R_alloc | apply Kd.R_drewN | apply Kd.R_drew)); exact HO_8.out)) k_ hn_))⟩)) (below_size (by repeat (first | (with_reducible first | exact HB.out | apply below_alloc | apply pw_below_drewN | apply below_drew1) | exact HB.out)))); have n4_ := Aside0.mk (Kd.V_lower (Kd.V_mono (ok' := fun k_ => some k_ ≠ (u6 : Value).ownBlock ∧ some k_ ≠ (u7 : Value).ownBlock ∧ some k_ ≠ (u8 : Value).ownBlock) ho1 (fun k_ hk_ => ⟨Or.elim hk_ (fun hs_ => Or.elim hs_ (fun hs_ => fun e_ => Nat.not_le.2 hs_ (Kd.R_base HO_6.out k_ e_.symm)) (fun hs_ => fun e_ => Nat.not_le.2 hs_ (Kd.R_base HO_6.out k_ e_.symm))) (fun hn_ => (Kd.fresh' (Kd.R_lt (by (with_reducible repeat (first | apply Kd.R_alloc | apply Kd.R_drewN | apply Kd.R_drew)); exact HO_6.out)) k_ hn_)), Or.elim hk_ (fun hs_ => Or.elim hs_ (fun hs_ => fun e_ => Nat.not_le.2 hs_ (Kd.N_base HO_7.out k_ e_.symm)) (fun hs_ => fun e_ => Nat.not_le.2 hs_ (Kd.N_base HO_7.out k_ e_.symm))) (fun hn_ => (Kd.fresh' (Kd.N_lt (by (with_reducible repeat (first | apply Kd.N_alloc | apply Kd.N_drewN | apply Kd.N_drew)); exact HO_7.out)) k_ hn_)), Or.elim hk_ (fun hs_ => Or.elim hs_ (fun hs_ => fun e_ => Nat.not_le.2 hs_ (Kd.R_base HO_8.out k_ e_.symm)) (fun hs_ => fun e_ => Nat.not_le.2 hs_ (Kd.R_base HO_8.out k_ e_.symm))) (fun hn_ => (Kd.fresh' (Kd.R_lt (by (with_reducible repeat (first | apply Kd.R_alloc | apply Kd.R_drewN | apply Kd.R_drew)); exact HO_8.out)) k_ hn_))⟩)) (below_size (by repeat (first | (with_reducible first | exact HB.out | apply below_alloc | apply pw_below_drewN | apply below_drew1) | exact HB.out)))); have n5_ := Aside0.mk (below_step (by repeat (first | (with_reducible first | exact HB.out | apply below_alloc | apply pw_below_drewN | apply below_drew1) | exact HB.out)) hb); clear HO_6; clear HO_7; clear HO_8; clear HB; have HO_6 := n0_; have HO_7 := n1_; have HO_8 := n2_; have HO353 := n3_; have HO356 := n4_; have HB := n5_; clear n0_ n1_ n2_ n3_ n4_ n5_; (try clear hb); (try clear hb2); (try clear hk); (try clear hi); (try clear ho0); (try clear ho1); obtain ⟨Ao23, co23, eo23⟩ := Kd.R_slice HO_6.out; subst eo23; obtain ⟨Ao24, co24, eo24⟩ := Kd.V_slice HO353.out; subst eo24; obtain ⟨Ao25, co25, eo25⟩ := Kd.V_slice HO356.out; subst eo25) | ((with_reducible refine gate_callee (f := 10) rfl ?_); refine goesL_ (some 40) rfl rfl Try.func10 (by kernel_rfl) rfl #[.slice Ao23 x6_1.length co23, .agg #[.string t349, .string t350, .slice Ao24 t351.length co24, .slice Ao25 t354.length co25]] rfl (by (try simp only [List.map_toArray, List.map_cons, List.map_nil]); first | done | rfl | (simp only [List.length_drop, List.length_take]; rfl)) ?_; (with_reducible refine (evcode_PutG.calls _ _ x6_1 t349 t350 _ _ t351 _ _ t354 t357 t360 _ ?side1 ?side2 ?side3 ?side4 ?side5 ?side6 A17.out).mono ?_); (case side1 => repeat (first | exact (Kd.R_reads' HO_6.out).2.2 | (with_reducible refine Kd.C_alloc ?_ _) | (with_reducible refine Kd.C_drewN ?_ _) | (with_reducible refine Kd.C_drew ?_))); (case side2 => exact (Kd.R_reads' HO_6.out).2.1); (case side3 => repeat (first | exact (Kd.V_reads' HO353.out).2.2 | (with_reducible refine Kd.C_alloc ?_ _) | (with_reducible refine Kd.C_drewN ?_ _) | (with_reducible refine Kd.C_drew ?_))); (case side4 => exact (Kd.V_reads' HO353.out).2.1); (case side5 => repeat (first | exact (Kd.V_reads' HO356.out).2.2 | (with_reducible refine Kd.C_alloc ?_ _) | (with_reducible refine Kd.C_drewN ?_ _) | (with_reducible refine Kd.C_drew ?_))); (case side6 => exact (Kd.V_reads' HO356.out).2.1); rintro e w26 ⟨v358, rfl, ho0, hb⟩; refine ⟨_, rfl, ?_⟩; have n0_ := Aside0.mk (Kd.R_elder' (by (with_reducible repeat (first | apply Kd.R_alloc | apply Kd.R_drewN | apply Kd.R_drew)); exact HO_6.out) (Kd.R_base ho0) hb); have n1_ := Aside0.mk (Kd.N_elder' (by (with_reducible repeat (first | apply Kd.N_alloc | apply Kd.N_drewN | apply Kd.N_drew)); exact HO_7.out) (Kd.R_base ho0) hb); have n2_ := Aside0.mk (Kd.R_below (by (with_reducible repeat (first | apply Kd.R_alloc | apply Kd.R_drewN | apply Kd.R_drew)); exact HO_8.out) hb); have n3_ := Aside0.mk (Kd.V_elder' (by (with_reducible repeat (first | apply Kd.V_alloc | apply Kd.V_drewN | apply Kd.V_drew)); exact HO353.out) (Kd.R_base ho0) hb); have n4_ := Aside0.mk (Kd.V_elder' (by (with_reducible repeat (first | apply Kd.V_alloc | apply Kd.V_drewN | apply Kd.V_drew)); exact HO356.out) (Kd.R_base ho0) hb); have n5_ := Aside0.mk (Kd.R_lower (Kd.R_new' ho0 (Kd.R_lt (by (with_reducible repeat (first | apply Kd.R_alloc | apply Kd.R_drewN | apply Kd.R_drew)); exact HO_6.out))) (below_size (by repeat (first | (with_reducible first | exact HB.out | apply below_alloc | apply pw_below_drewN | apply below_drew1) | exact HB.out)))); have n6_ := Aside0.mk (below_step (by repeat (first | (with_reducible first | exact HB.out | apply below_alloc | apply pw_below_drewN | apply below_drew1) | exact HB.out)) hb); clear HO_6; clear HO_7; clear HO_8; clear HO353; clear HO356; clear HB; have HO_6 := n0_; have HO_7 := n1_; have HO_8 := n2_; have HO353 := n3_; have HO356 := n4_; have HO359 := n5_; have HB := n6_; clear n0_ n1_ n2_ n3_ n4_ n5_ n6_; (try clear hb); (try clear hb2); (try clear hk); (try clear hi); (try clear ho0); have p361 : 0 ≤ (x9_1 : Int) := of_decide_eq_true (by first | (with_reducible assumption) | assumption); have q361 : x9_1 < (l0.length : Int) := of_decide_eq_true (by first | (with_reducible assumption) | assumption); obtain ⟨ad361, A361_2, c361_2, A361_3, c361_3, e361, hx361_0, hx361_1, hx361_2, hx361_3, hl361_2, hi361_2, hl361_3, hi361_3⟩ := at_T26 HR0.out x9_1 p361 q361; obtain rfl : ad348 = ad361 := (by injection e361); replace hx361_0 := (HB.out.cell (World.block_lt_of_cell? w _ hx361_0)).trans hx361_0; replace hx361_1 := (HB.out.cell (World.block_lt_of_cell? w _ hx361_1)).trans hx361_1; replace hx361_2 := (HB.out.cell (World.block_lt_of_cell? w _ hx361_2)).trans hx361_2; replace hx361_3 := (HB.out.cell (World.block_lt_of_cell? w _ hx361_3)).trans hx361_3; have HR361_2 := Aside0.mk hi361_2; have HC361_2 := Aside0.mk hl361_2; clear hi361_2 hl361_2; have HR361_3 := Aside0.mk hi361_3; have HC361_3 := Aside0.mk hl361_3; clear hi361_3 hl361_3; replace p361 := eq_true p361; replace q361 := eq_true q361) | ((with_reducible refine gate_callee (f := 11) rfl ?_); refine goesL_ (some 51) rfl rfl Try.func11 (by kernel_rfl) rfl #[.agg #[.string ((rd_T26 l0 x9_1).f0), .string ((rd_T26 l0 x9_1).f1), .slice A361_2 ((rd_T26 l0 x9_1).f2).length c361_2, .slice A361_3 ((rd_T26 l0 x9_1).f3).length c361_3]] rfl (by (try simp only [List.map_toArray, List.map_cons, List.map_nil]); first | done | rfl | (simp only [List.length_drop, List.length_take]; rfl)) ?_; (with_reducible refine (registrarlaw05_few.calls ((rd_T26 l0 x9_1).f0) ((rd_T26 l0 x9_1).f1) (fun k_ => k_ < w.heap.size) _ _ ((rd_T26 l0 x9_1).f2) (fun k_ => k_ < w.heap.size) _ _ ((rd_T26 l0 x9_1).f3) t362 t363 t364 t367 _ ?side1 ?side2 A19.out).mono ?_); (case side1 => exact Kd.V_mk HC361_2.out (Kd.F_below (Kd.C_F Kd.heap_string HR361_2.out) (by repeat (first | (with_reducible first | exact HB.out | apply below_alloc | apply pw_below_drewN | apply below_drew1) | exact HB.out)))); (case side2 => exact Kd.V_mk HC361_3.out (Kd.F_below (Kd.C_F k35_heap HR361_3.out) (by repeat (first | (with_reducible first | exact HB.out | apply below_alloc | apply pw_below_drewN | apply below_drew1) | exact HB.out)))); rintro e w27 ⟨v365, v368, rfl, ho0, ho1, hb⟩; refine ⟨_, rfl, ?_⟩; have n0_ := Aside0.mk (Kd.R_below (by (with_reducible repeat (first | apply Kd.R_alloc | apply Kd.R_drewN | apply Kd.R_drew)); exact HO_6.out) hb); have n1_ := Aside0.mk (Kd.N_below (by (with_reducible repeat (first | apply Kd.N_alloc | apply Kd.N_drewN | apply Kd.N_drew)); exact HO_7.out) hb); have n2_ := Aside0.mk (Kd.R_below (by (with_reducible repeat (first | apply Kd.R_alloc | apply Kd.R_drewN | apply Kd.R_drew)); exact HO_8.out) hb); have n3_ := Aside0.mk (Kd.V_below (by (with_reducible repeat (first | apply Kd.V_alloc | apply Kd.V_drewN | apply Kd.V_drew)); exact HO353.out) hb); have n4_ := Aside0.mk (Kd.V_below (by (with_reducible repeat (first | apply Kd.V_alloc | apply Kd.V_drewN | apply Kd.V_drew)); exact HO356.out) hb); have n5_ := Aside0.mk (Kd.R_below (by (with_reducible repeat (first | apply Kd.R_alloc | apply Kd.R_drewN | apply Kd.R_drew)); exact HO359.out) hb); have n6_ := Aside0.mk (Kd.V_lower (Kd.V_mono (ok' := fun k_ => some k_ ≠ (.slice Ao23 x6_1.length co23 : Value).ownBlock ∧ some k_ ≠ (u7 : Value).ownBlock ∧ some k_ ≠ (u8 : Value).ownBlock ∧ some k_ ≠ (v358 : Value).ownBlock) ho0 (fun k_ hk_ => ⟨Or.elim hk_ (fun hs_ => Or.elim hs_ (fun hs_ => fun e_ => Nat.not_le.2 hs_ (Kd.R_base HO_6.out k_ e_.symm)) (fun hs_ => fun e_ => Nat.not_le.2 hs_ (Kd.R_base HO_6.out k_ e_.symm))) (fun hn_ => (Kd.fresh' (Kd.R_lt (by (with_reducible repeat (first | apply Kd.R_alloc | apply Kd.R_drewN | apply Kd.R_drew)); exact HO_6.out)) k_ hn_)), Or.elim hk_ (fun hs_ => Or.elim hs_ (fun hs_ => fun e_ => Nat.not_le.2 hs_ (Kd.N_base HO_7.out k_ e_.symm)) (fun hs_ => fun e_ => Nat.not_le.2 hs_ (Kd.N_base HO_7.out k_ e_.symm))) (fun hn_ => (Kd.fresh' (Kd.N_lt (by (with_reducible repeat (first | apply Kd.N_alloc | apply Kd.N_drewN | apply Kd.N_drew)); exact HO_7.out)) k_ hn_)), Or.elim hk_ (fun hs_ => Or.elim hs_ (fun hs_ => fun e_ => Nat.not_le.2 hs_ (Kd.R_base HO_8.out k_ e_.symm)) (fun hs_ => fun e_ => Nat.not_le.2 hs_ (Kd.R_base HO_8.out k_ e_.symm))) (fun hn_ => (Kd.fresh' (Kd.R_lt (by (with_reducible repeat (first | apply Kd.R_alloc | apply Kd.R_drewN | apply Kd.R_drew)); exact HO_8.out)) k_ hn_)), Or.elim hk_ (fun hs_ => Or.elim hs_ (fun hs_ => fun e_ => Nat.not_le.2 hs_ (Kd.R_base HO359.out k_ e_.symm)) (fun hs_ => fun e_ => Nat.not_le.2 hs_ (Kd.R_base HO359.out k_ e_.symm))) (fun hn_ => (Kd.fresh' (Kd.R_lt (by (with_reducible repeat (first | apply Kd.R_alloc | apply Kd.R_drewN | apply Kd.R_drew)); exact HO359.out)) k_ hn_))⟩)) (below_size (by repeat (first | (with_reducible first | exact HB.out | apply below_alloc | apply pw_below_drewN | apply below_drew1) | exact HB.out)))); have n7_ := Aside0.mk (Kd.V_lower (Kd.V_mono (ok' := fun k_ => some k_ ≠ (.slice Ao23 x6_1.length co23 : Value).ownBlock ∧ some k_ ≠ (u7 : Value).ownBlock ∧ some k_ ≠ (u8 : Value).ownBlock ∧ some k_ ≠ (v358 : Value).ownBlock) ho1 (fun k_ hk_ => ⟨Or.elim hk_ (fun hs_ => Or.elim hs_ (fun hs_ => fun e_ => Nat.not_le.2 hs_ (Kd.R_base HO_6.out k_ e_.symm)) (fun hs_ => fun e_ => Nat.not_le.2 hs_ (Kd.R_base HO_6.out k_ e_.symm))) (fun hn_ => (Kd.fresh' (Kd.R_lt (by (with_reducible repeat (first | apply Kd.R_alloc | apply Kd.R_drewN | apply Kd.R_drew)); exact HO_6.out)) k_ hn_)), Or.elim hk_ (fun hs_ => Or.elim hs_ (fun hs_ => fun e_ => Nat.not_le.2 hs_ (Kd.N_base HO_7.out k_ e_.symm)) (fun hs_ => fun e_ => Nat.not_le.2 hs_ (Kd.N_base HO_7.out k_ e_.symm))) (fun hn_ => (Kd.fresh' (Kd.N_lt (by (with_reducible repeat (first | apply Kd.N_alloc | apply Kd.N_drewN | apply Kd.N_drew)); exact HO_7.out)) k_ hn_)), Or.elim hk_ (fun hs_ => Or.elim hs_ (fun hs_ => fun e_ => Nat.not_le.2 hs_ (Kd.R_base HO_8.out k_ e_.symm)) (fun hs_ => fun e_ => Nat.not_le.2 hs_ (Kd.R_base HO_8.out k_ e_.symm))) (fun hn_ => (Kd.fresh' (Kd.R_lt (by (with_reducible repeat (first | apply Kd.R_alloc | apply Kd.R_drewN | apply Kd.R_drew)); exact HO_8.out)) k_ hn_)), Or.elim hk_ (fun hs_ => Or.elim hs_ (fun hs_ => fun e_ => Nat.not_le.2 hs_ (Kd.R_base HO359.out k_ e_.symm)) (fun hs_ => fun e_ => Nat.not_le.2 hs_ (Kd.R_base HO359.out k_ e_.symm))) (fun hn_ => (Kd.fresh' (Kd.R_lt (by (with_reducible repeat (first | apply Kd.R_alloc | apply Kd.R_drewN | apply Kd.R_drew)); exact HO359.out)) k_ hn_))⟩)) (below_size (by repeat (first | (with_reducible first | exact HB.out | apply below_alloc | apply pw_below_drewN | apply below_drew1) | exact HB.out)))); have n8_ := Aside0.mk (below_step (by repeat (first | (with_reducible first | exact HB.out | apply below_alloc | apply pw_below_drewN | apply below_drew1) | exact HB.out)) hb); clear HO_6; clear HO_7; clear HO_8; clear HO353; clear HO356; clear HO359; clear HB; have HO_6 := n0_; have HO_7 := n1_; have HO_8 := n2_; have HO353 := n3_; have HO356 := n4_; have HO359 := n5_; have HO366 := n6_; have HO369 := n7_; have HB := n8_; clear n0_ n1_ n2_ n3_ n4_ n5_ n6_ n7_ n8_; (try clear hb); (try clear hb2); (try clear hk); (try clear hi); (try clear ho0); (try clear ho1); obtain ⟨Ao29, co29, eo29⟩ := Kd.V_slice HO366.out; subst eo29; obtain ⟨Ao30, co30, eo30⟩ := Kd.V_slice HO369.out; subst eo30) | ((with_reducible refine gate_builtin (b := .append) (xs := #[.tmp 46, .tmp 52]) rfl ?_); (try (refine gate_guard (by rfl) ?_; dsimp only)); at_builtin; refine Kd.N_append k26 (w0 := w) w.heap.size rfl (.tmp 46) (.tmp 52) 46 26 (.agg #[(.string ⟨#[]⟩), (.string ⟨#[]⟩), (.slice none 0 0), (.slice none 0 0)]) 80 rfl Try.underlying46 info26 rfl (by decide) (by omega) u7 x7_1 (⟨t362, t363, t364, t367⟩ : S26) [.string t362, .string t363, .slice Ao29 t364.length co29, .slice Ao30 t367.length co30] (fun k_ => some k_ ≠ (.slice Ao23 x6_1.length co23 : Value).ownBlock ∧ some k_ ≠ (u8 : Value).ownBlock ∧ some k_ ≠ (v358 : Value).ownBlock) (fun k_ => ((fun k_ => some k_ ≠ (.slice Ao23 x6_1.length co23 : Value).ownBlock ∧ some k_ ≠ (u8 : Value).ownBlock ∧ some k_ ≠ (v358 : Value).ownBlock)) k_ ∧ some k_ ≠ (u7 : Value).ownBlock) rfl rfl ?aP (fun _ hk => hk) ?aF ?aO ?aB ?aS ?aL ?_; (case aP => exact (k26_mkF _ _ (⟨t362, t363, t364, t367⟩ : S26) (Kd.V_reads' (Kd.V_mono (ok' := (fun k_ => ((fun k_ => some k_ ≠ (.slice Ao23 x6_1.length co23 : Value).ownBlock ∧ some k_ ≠ (u8 : Value).ownBlock ∧ some k_ ≠ (v358 : Value).ownBlock)) k_ ∧ some k_ ≠ (u7 : Value).ownBlock)) (HO366.out) (fun k_ hk => ⟨⟨hk.1, ⟨hk.2.2.1, hk.2.2.2⟩⟩, hk.2.1⟩))).2.1 (Kd.V_F (Kd.V_mono (ok' := (fun k_ => ((fun k_ => some k_ ≠ (.slice Ao23 x6_1.length co23 : Value).ownBlock ∧ some k_ ≠ (u8 : Value).ownBlock ∧ some k_ ≠ (v358 : Value).ownBlock)) k_ ∧ some k_ ≠ (u7 : Value).ownBlock)) (HO366.out) (fun k_ hk => ⟨⟨hk.1, ⟨hk.2.2.1, hk.2.2.2⟩⟩, hk.2.1⟩))) (Kd.V_reads' (Kd.V_mono (ok' := (fun k_ => ((fun k_ => some k_ ≠ (.slice Ao23 x6_1.length co23 : Value).ownBlock ∧ some k_ ≠ (u8 : Value).ownBlock ∧ some k_ ≠ (v358 : Value).ownBlock)) k_ ∧ some k_ ≠ (u7 : Value).ownBlock)) (HO369.out) (fun k_ hk => ⟨⟨hk.1, ⟨hk.2.2.1, hk.2.2.2⟩⟩, hk.2.1⟩))).2.1 (Kd.V_F (Kd.V_mono (ok' := (fun k_ => ((fun k_ => some k_ ≠ (.slice Ao23 x6_1.length co23 : Value).ownBlock ∧ some k_ ≠ (u8 : Value).ownBlock ∧ some k_ ≠ (v358 : Value).ownBlock)) k_ ∧ some k_ ≠ (u7 : Value).ownBlock)) (HO369.out) (fun k_ hk => ⟨⟨hk.1, ⟨hk.2.2.1, hk.2.2.2⟩⟩, hk.2.1⟩))))); (case aB => exact (by repeat (first | (with_reducible first | exact HB.out | apply below_alloc | apply pw_below_drewN | apply below_drew1) | exact HB.out))); (case aF => exact (fun k_ hk => ⟨Kd.fresh' (Kd.R_lt (by (with_reducible repeat (first | apply Kd.R_alloc | apply Kd.R_drewN | apply Kd.R_drew)); exact HO_6.out)) k_ hk, Kd.fresh' (Kd.R_lt (by (with_reducible repeat (first | apply Kd.R_alloc | apply Kd.R_drewN | apply Kd.R_drew)); exact HO_8.out)) k_ hk, Kd.fresh' (Kd.R_lt (by (with_reducible repeat (first | apply Kd.R_alloc | apply Kd.R_drewN | apply Kd.R_drew)); exact HO359.out)) k_ hk⟩)); (case aO => exact (by (with_reducible repeat (first | apply Kd.N_alloc | apply Kd.N_drewN | apply Kd.N_drew)); exact Kd.N_mono HO_7.out (fun _ hk => ⟨hk.1.1, ⟨hk.1.2, hk.2⟩⟩))); (case aS => exact (below_size (by repeat (first | (with_reducible first | exact HB.out | apply below_alloc | apply pw_below_drewN | apply below_drew1) | exact HB.out)))); (case aL => have := LMc20.out; omega); intro v371 w28 ho hb hg hat; rw [← Ny370.out] at ho; have n0_ := Aside0.mk (Kd.R_over' (by (with_reducible repeat (first | apply Kd.R_alloc | apply Kd.R_drewN | apply Kd.R_drew)); exact HO_6.out) (Kd.N_typed (by (with_reducible repeat (first | apply Kd.N_alloc | apply Kd.N_drewN | apply Kd.N_drew)); exact HO_7.out)) (by decide) hg); have n1_ := Aside0.mk (Kd.R_over' (by (with_reducible repeat (first | apply Kd.R_alloc | apply Kd.R_drewN | apply Kd.R_drew)); exact HO_8.out) (Kd.N_typed (by (with_reducible repeat (first | apply Kd.N_alloc | apply Kd.N_drewN | apply Kd.N_drew)); exact HO_7.out)) (by decide) hg); have n2_ := Aside0.mk (Kd.V_afterv (ok := (fun k_ => some k_ ≠ (.slice Ao23 x6_1.length co23 : Value).ownBlock ∧ some k_ ≠ (u8 : Value).ownBlock ∧ some k_ ≠ (v358 : Value).ownBlock)) (by (with_reducible repeat (first | apply Kd.V_alloc | apply Kd.V_drewN | apply Kd.V_drew)); exact Kd.V_mono HO353.out (fun _ hk => ⟨⟨hk.1.1, ⟨hk.1.2.2, hk.2⟩⟩, hk.1.2.1⟩)) hg hat); have n3_ := Aside0.mk (Kd.V_afterv (ok := (fun k_ => some k_ ≠ (.slice Ao23 x6_1.length co23 : Value).ownBlock ∧ some k_ ≠ (u8 : Value).ownBlock ∧ some k_ ≠ (v358 : Value).ownBlock)) (by (with_reducible repeat (first | apply Kd.V_alloc | apply Kd.V_drewN | apply Kd.V_drew)); exact Kd.V_mono HO356.out (fun _ hk => ⟨⟨hk.1.1, ⟨hk.1.2.2, hk.2⟩⟩, hk.1.2.1⟩)) hg hat); have n4_ := Aside0.mk (Kd.R_over' (by (with_reducible repeat (first | apply Kd.R_alloc | apply Kd.R_drewN | apply Kd.R_drew)); exact HO359.out) (Kd.N_typed (by (with_reducible repeat (first | apply Kd.N_alloc | apply Kd.N_drewN | apply Kd.N_drew)); exact HO_7.out)) (by decide) hg); have n5_ := Aside0.mk (Kd.V_afterv (ok := (fun k_ => some k_ ≠ (.slice Ao23 x6_1.length co23 : Value).ownBlock ∧ some k_ ≠ (u8 : Value).ownBlock ∧ some k_ ≠ (v358 : Value).ownBlock)) (by (with_reducible repeat (first | apply Kd.V_alloc | apply Kd.V_drewN | apply Kd.V_drew)); exact Kd.V_mono HO366.out (fun _ hk => ⟨⟨hk.1, ⟨hk.2.2.1, hk.2.2.2⟩⟩, hk.2.1⟩)) hg hat); have n6_ := Aside0.mk (Kd.V_afterv (ok := (fun k_ => some k_ ≠ (.slice Ao23 x6_1.length co23 : Value).ownBlock ∧ some k_ ≠ (u8 : Value).ownBlock ∧ some k_ ≠ (v358 : Value).ownBlock)) (by (with_reducible repeat (first | apply Kd.V_alloc | apply Kd.V_drewN | apply Kd.V_drew)); exact Kd.V_mono HO369.out (fun _ hk => ⟨⟨hk.1, ⟨hk.2.2.1, hk.2.2.2⟩⟩, hk.2.1⟩)) hg hat); have n7_ := Aside0.mk (hb); have n8_ := Aside0.mk (ho); clear HO_6; clear HO_8; clear HO353; clear HO356; clear HO359; clear HO366; clear HO369; clear HB; clear HO_7; have HO_6 := n0_; have HO_8 := n1_; have HO353 := n2_; have HO356 := n3_; have HO359 := n4_; have HO366 := n5_; have HO369 := n6_; have HB := n7_; have HO372 := n8_; clear n0_ n1_ n2_ n3_ n4_ n5_ n6_ n7_ n8_; clear ho hb hg hat; obtain ⟨Ao31, co31, eo31⟩ := Kd.R_slice HO359.out; subst eo31) | ((with_reducible refine gate_builtin (b := .append) (xs := #[.tmp 54, .tmp 57]) rfl ?_); (try (refine gate_guard (by rfl) ?_; dsimp only)); at_builtin; refine Kd.R_append (Kd.int .i64) (w0 := w) w.heap.size rfl (.tmp 54) (.tmp 57) 52 3 (.int .i64 0) 8 rfl Try.underlying52 info3 rfl (by decide) (by omega) u8 x8_1 (t357.length : Int) [.int .i64 (t357.length : Int)] (fun _ => True) (fun _ => False) rfl rfl ?aP (fun _ hk => hk.elim) ?aF ?aO ?aB ?aS ?aL ?_; (case aP => exact rfl); (case aB => exact (by repeat (first | (with_reducible first | exact HB.out | apply below_alloc | apply pw_below_drewN | apply below_drew1) | exact HB.out))); (case aF => exact (fun _ _ => trivial)); (case aO => exact (by (with_reducible repeat (first | apply Kd.R_alloc | apply Kd.R_drewN | apply Kd.R_drew)); exact HO_8.out)); (case aS => exact (below_size (by repeat (first | (with_reducible first | exact HB.out | apply below_alloc | apply pw_below_drewN | apply below_drew1) | exact HB.out)))); (case aL => have := LMc21.out; omega); intro v374 w32 ho hb hg hat; rw [← Ny373.out] at ho; have n0_ := Aside0.mk (Kd.R_over' (by (with_reducible repeat (first | apply Kd.R_alloc | apply Kd.R_drewN | apply Kd.R_drew)); exact HO_6.out) (Kd.R_typed (by (with_reducible repeat (first | apply Kd.R_alloc | apply Kd.R_drewN | apply Kd.R_drew)); exact HO_8.out)) (by decide) hg); have n1_ := Aside0.mk (Kd.V_afterv (ok := (fun k_ => some k_ ≠ (.slice Ao23 x6_1.length co23 : Value).ownBlock ∧ some k_ ≠ (.slice Ao31 t357.length co31 : Value).ownBlock ∧ some k_ ≠ (v371 : Value).ownBlock)) (by (with_reducible repeat (first | apply Kd.V_alloc | apply Kd.V_drewN | apply Kd.V_drew)); exact Kd.V_mono HO353.out (fun _ hk => ⟨⟨hk.1.1, ⟨hk.1.2.2, hk.2⟩⟩, hk.1.2.1⟩)) hg hat); have n2_ := Aside0.mk (Kd.V_afterv (ok := (fun k_ => some k_ ≠ (.slice Ao23 x6_1.length co23 : Value).ownBlock ∧ some k_ ≠ (.slice Ao31 t357.length co31 : Value).ownBlock ∧ some k_ ≠ (v371 : Value).ownBlock)) (by (with_reducible repeat (first | apply Kd.V_alloc | apply Kd.V_drewN | apply Kd.V_drew)); exact Kd.V_mono HO356.out (fun _ hk => ⟨⟨hk.1.1, ⟨hk.1.2.2, hk.2⟩⟩, hk.1.2.1⟩)) hg hat); have n3_ := Aside0.mk (Kd.R_over' (by (with_reducible repeat (first | apply Kd.R_alloc | apply Kd.R_drewN | apply Kd.R_drew)); exact HO359.out) (Kd.R_typed (by (with_reducible repeat (first | apply Kd.R_alloc | apply Kd.R_drewN | apply Kd.R_drew)); exact HO_8.out)) (by decide) hg); have n4_ := Aside0.mk (Kd.V_afterv (ok := (fun k_ => some k_ ≠ (.slice Ao23 x6_1.length co23 : Value).ownBlock ∧ some k_ ≠ (.slice Ao31 t357.length co31 : Value).ownBlock ∧ some k_ ≠ (v371 : Value).ownBlock)) (by (with_reducible repeat (first | apply Kd.V_alloc | apply Kd.V_drewN | apply Kd.V_drew)); exact Kd.V_mono HO366.out (fun _ hk => ⟨⟨hk.1.1, ⟨hk.1.2.2, hk.2⟩⟩, hk.1.2.1⟩)) hg hat); have n5_ := Aside0.mk (Kd.V_afterv (ok := (fun k_ => some k_ ≠ (.slice Ao23 x6_1.length co23 : Value).ownBlock ∧ some k_ ≠ (.slice Ao31 t357.length co31 : Value).ownBlock ∧ some k_ ≠ (v371 : Value).ownBlock)) (by (with_reducible repeat (first | apply Kd.V_alloc | apply Kd.V_drewN | apply Kd.V_drew)); exact Kd.V_mono HO369.out (fun _ hk => ⟨⟨hk.1.1, ⟨hk.1.2.2, hk.2⟩⟩, hk.1.2.1⟩)) hg hat); have n6_ := Aside0.mk (Kd.N_afterv (ok := (fun k_ => some k_ ≠ (.slice Ao23 x6_1.length co23 : Value).ownBlock ∧ some k_ ≠ (.slice Ao31 t357.length co31 : Value).ownBlock)) (by (with_reducible repeat (first | apply Kd.N_alloc | apply Kd.N_drewN | apply Kd.N_drew)); exact Kd.N_mono HO372.out (fun _ hk => ⟨⟨hk.1, hk.2.2⟩, hk.2.1⟩)) hg hat); have n7_ := Aside0.mk (hb); have n8_ := Aside0.mk (ho); clear HO_6; clear HO353; clear HO356; clear HO359; clear HO366; clear HO369; clear HO372; clear HB; clear HO_8; have HO_6 := n0_; have HO353 := n1_; have HO356 := n2_; have HO359 := n3_; have HO366 := n4_; have HO369 := n5_; have HO372 := n6_; have HB := n7_; have HO375 := n8_; clear n0_ n1_ n2_ n3_ n4_ n5_ n6_ n7_ n8_; clear ho hb hg hat))
                      go_roundg kj10
                      case measure => have := HK1.out; have := HJ10.out; omega
                      case rel => exact ⟨(t357), (y370), (y373), (wrap64 (x9_1 + 1)), (by first | rfl | (simp; done) | (simp [*]; done)), H', ⟨by have := HK1.out; have := HJ10.out; omega⟩, ⟨by (with_reducible repeat (first | apply Kd.R_alloc | apply Kd.R_drewN | apply Kd.R_drew)); exact Kd.R_mono HO359.out (fun _ hk => trivial)⟩, ⟨by (with_reducible repeat (first | apply Kd.N_alloc | apply Kd.N_drewN | apply Kd.N_drew)); exact Kd.N_mono HO372.out (fun _ hk => ⟨hk.1.2, hk.2⟩)⟩, ⟨by (with_reducible repeat (first | apply Kd.R_alloc | apply Kd.R_drewN | apply Kd.R_drew)); exact HO375.out⟩, ⟨by repeat (first | (with_reducible first | exact HB.out | apply below_alloc | apply pw_below_drewN | apply below_drew1) | exact HB.out)⟩⟩
                    · rw [if_neg c21] at H
                      exact absurd H (by simp)
                  · rw [if_neg c20] at H
                    exact absurd H (by simp)
                · rw [if_neg c18] at H
                  have c18b0 : (t360 == 0) = false := beq_eq_false_iff_ne.mpr c18
                  have c18b1 : (t360 != 0) = true := bne_iff_ne.mpr c18
                  by_cases c33 : (t357.length : Int) = 0
                  · rw [if_pos c33] at H
                    have c33b0 : ((t357.length : Int) == 0) = true := beq_iff_eq.mpr c33
                    have c33b1 : ((t357.length : Int) != 0) = false := bne_eq_false_iff_eq.mpr c33
                    clear c33
                    have H' := Aside0.mk H
                    clear H
                    have p348 : 0 ≤ (x9_1 : Int) := of_decide_eq_true (by first | (with_reducible assumption) | assumption)
                    have q348 : x9_1 < (l0.length : Int) := of_decide_eq_true (by first | (with_reducible assumption) | assumption)
                    obtain ⟨ad348, A348_2, c348_2, A348_3, c348_3, e348, hx348_0, hx348_1, hx348_2, hx348_3, hl348_2, hi348_2, hl348_3, hi348_3⟩ := at_T26 HR0.out x9_1 p348 q348
                    cases e348
                    replace hx348_0 := (HB.out.cell (World.block_lt_of_cell? w _ hx348_0)).trans hx348_0
                    replace hx348_1 := (HB.out.cell (World.block_lt_of_cell? w _ hx348_1)).trans hx348_1
                    replace hx348_2 := (HB.out.cell (World.block_lt_of_cell? w _ hx348_2)).trans hx348_2
                    replace hx348_3 := (HB.out.cell (World.block_lt_of_cell? w _ hx348_3)).trans hx348_3
                    have HR348_2 := Aside0.mk hi348_2
                    have HC348_2 := Aside0.mk hl348_2
                    clear hi348_2 hl348_2
                    have HR348_3 := Aside0.mk hi348_3
                    have HC348_3 := Aside0.mk hl348_3
                    clear hi348_3 hl348_3
                    replace p348 := eq_true p348
                    replace q348 := eq_true q348
                    go_wp2_with (first | ((with_reducible refine gate_callee (f := 11) rfl ?_); refine goesL_ (some 39) rfl rfl Try.func11 (by kernel_rfl) rfl #[.agg #[.string ((rd_T26 l0 x9_1).f0), .string ((rd_T26 l0 x9_1).f1), .slice A348_2 ((rd_T26 l0 x9_1).f2).length c348_2, .slice A348_3 ((rd_T26 l0 x9_1).f3).length c348_3]] rfl (by (try simp only [List.map_toArray, List.map_cons, List.map_nil]); first | done | rfl | (simp only [List.length_drop, List.length_take]; rfl)) ?_; (with_reducible refine (registrarlaw05_few.calls ((rd_T26 l0 x9_1).f0) ((rd_T26 l0 x9_1).f1) (fun k_ => k_ < w.heap.size) _ _ ((rd_T26 l0 x9_1).f2) (fun k_ => k_ < w.heap.size) _ _ ((rd_T26 l0 x9_1).f3) t349 t350 t351 t354 _ ?side1 ?side2 A16.out).mono ?_); (case side1 => exact Kd.V_mk HC348_2.out (Kd.F_below (Kd.C_F Kd.heap_string HR348_2.out) (by repeat (first | (with_reducible first | exact HB.out | apply below_alloc | apply pw_below_drewN | apply below_drew1) | exact HB.out)))); (case side2 => exact Kd.V_mk HC348_3.out (Kd.F_below (Kd.C_F k35_heap HR348_3.out) (by repeat (first | (with_reducible first | exact HB.out | apply below_alloc | apply pw_below_drewN | apply below_drew1) | exact HB.out)))); rintro e w34 ⟨v352, v355, rfl, ho0, ho1, hb⟩; refine ⟨_, rfl, ?_⟩; have n0_ := Aside0.mk (Kd.R_below (by (with_reducible repeat (first | apply Kd.R_alloc | apply Kd.R_drewN | apply Kd.R_drew)); exact HO_6.out) hb); have n1_ := Aside0.mk (Kd.N_below (by (with_reducible repeat (first | apply Kd.N_alloc | apply Kd.N_drewN | apply Kd.N_drew)); exact HO_7.out) hb); have n2_ := Aside0.mk (Kd.R_below (by (with_reducible repeat (first | apply Kd.R_alloc | apply Kd.R_drewN | apply Kd.R_drew)); exact HO_8.out) hb); have n3_ := Aside0.mk (Kd.V_lower (Kd.V_mono (ok' := fun k_ => some k_ ≠ (u6 : Value).ownBlock ∧ some k_ ≠ (u7 : Value).ownBlock ∧ some k_ ≠ (u8 : Value).ownBlock) ho0 (fun k_ hk_ => ⟨Or.elim hk_ (fun hs_ => Or.elim hs_ (fun hs_ => fun e_ => Nat.not_le.2 hs_ (Kd.R_base HO_6.out k_ e_.symm)) (fun hs_ => fun e_ => Nat.not_le.2 hs_ (Kd.R_base HO_6.out k_ e_.symm))) (fun hn_ => (Kd.fresh' (Kd.R_lt (by (with_reducible repeat (first | apply Kd.R_alloc | apply Kd.R_drewN | apply Kd.R_drew)); exact HO_6.out)) k_ hn_)), Or.elim hk_ (fun hs_ => Or.elim hs_ (fun hs_ => fun e_ => Nat.not_le.2 hs_ (Kd.N_base HO_7.out k_ e_.symm)) (fun hs_ => fun e_ => Nat.not_le.2 hs_ (Kd.N_base HO_7.out k_ e_.symm))) (fun hn_ => (Kd.fresh' (Kd.N_lt (by (with_reducible repeat (first | apply Kd.N_alloc | apply Kd.N_drewN | apply Kd.N_drew)); exact HO_7.out)) k_ hn_)), Or.elim hk_ (fun hs_ => Or.elim hs_ (fun hs_ => fun e_ => Nat.not_le.2 hs_ (Kd.R_base HO_8.out k_ e_.symm)) (fun hs_ => fun e_ => Nat.not_le.2 hs_ (Kd.R_base HO_8.out k_ e_.symm))) (fun hn_ => (Kd.fresh' (Kd.R_lt (by (with_reducible repeat (first | apply Kd.R_alloc | apply Kd.R_drewN | apply Kd.R_drew)); exact HO_8.out)) k_ hn_))⟩)) (below_size (by repeat (first | (with_reducible first | exact HB.out | apply below_alloc | apply pw_below_drewN | apply below_drew1) | exact HB.out)))); have n4_ := Aside0.mk (Kd.V_lower (Kd.V_mono (ok' := fun k_ => some k_ ≠ (u6 : Value).ownBlock ∧ some k_ ≠ (u7 : Value).ownBlock ∧ some k_ ≠ (u8 : Value).ownBlock) ho1 (fun k_ hk_ => ⟨Or.elim hk_ (fun hs_ => Or.elim hs_ (fun hs_ => fun e_ => Nat.not_le.2 hs_ (Kd.R_base HO_6.out k_ e_.symm)) (fun hs_ => fun e_ => Nat.not_le.2 hs_ (Kd.R_base HO_6.out k_ e_.symm))) (fun hn_ => (Kd.fresh' (Kd.R_lt (by (with_reducible repeat (first | apply Kd.R_alloc | apply Kd.R_drewN | apply Kd.R_drew)); exact HO_6.out)) k_ hn_)), Or.elim hk_ (fun hs_ => Or.elim hs_ (fun hs_ => fun e_ => Nat.not_le.2 hs_ (Kd.N_base HO_7.out k_ e_.symm)) (fun hs_ => fun e_ => Nat.not_le.2 hs_ (Kd.N_base HO_7.out k_ e_.symm))) (fun hn_ => (Kd.fresh' (Kd.N_lt (by (with_reducible repeat (first | apply Kd.N_alloc | apply Kd.N_drewN | apply Kd.N_drew)); exact HO_7.out)) k_ hn_)), Or.elim hk_ (fun hs_ => Or.elim hs_ (fun hs_ => fun e_ => Nat.not_le.2 hs_ (Kd.R_base HO_8.out k_ e_.symm)) (fun hs_ => fun e_ => Nat.not_le.2 hs_ (Kd.R_base HO_8.out k_ e_.symm))) (fun hn_ => (Kd.fresh' (Kd.R_lt (by (with_reducible repeat (first | apply Kd.R_alloc | apply Kd.R_drewN | apply Kd.R_drew)); exact HO_8.out)) k_ hn_))⟩)) (below_size (by repeat (first | (with_reducible first | exact HB.out | apply below_alloc | apply pw_below_drewN | apply below_drew1) | exact HB.out)))); have n5_ := Aside0.mk (below_step (by repeat (first | (with_reducible first | exact HB.out | apply below_alloc | apply pw_below_drewN | apply below_drew1) | exact HB.out)) hb); clear HO_6; clear HO_7; clear HO_8; clear HB; have HO_6 := n0_; have HO_7 := n1_; have HO_8 := n2_; have HO353 := n3_; have HO356 := n4_; have HB := n5_; clear n0_ n1_ n2_ n3_ n4_ n5_; (try clear hb); (try clear hb2); (try clear hk); (try clear hi); (try clear ho0); (try clear ho1); obtain ⟨Ao35, co35, eo35⟩ := Kd.R_slice HO_6.out; subst eo35; obtain ⟨Ao36, co36, eo36⟩ := Kd.V_slice HO353.out; subst eo36; obtain ⟨Ao37, co37, eo37⟩ := Kd.V_slice HO356.out; subst eo37) | ((with_reducible refine gate_callee (f := 10) rfl ?_); refine goesL_ (some 40) rfl rfl Try.func10 (by kernel_rfl) rfl #[.slice Ao35 x6_1.length co35, .agg #[.string t349, .string t350, .slice Ao36 t351.length co36, .slice Ao37 t354.length co37]] rfl (by (try simp only [List.map_toArray, List.map_cons, List.map_nil]); first | done | rfl | (simp only [List.length_drop, List.length_take]; rfl)) ?_; (with_reducible refine (evcode_PutG.calls _ _ x6_1 t349 t350 _ _ t351 _ _ t354 t357 t360 _ ?side1 ?side2 ?side3 ?side4 ?side5 ?side6 A17.out).mono ?_); (case side1 => repeat (first | exact (Kd.R_reads' HO_6.out).2.2 | (with_reducible refine Kd.C_alloc ?_ _) | (with_reducible refine Kd.C_drewN ?_ _) | (with_reducible refine Kd.C_drew ?_))); (case side2 => exact (Kd.R_reads' HO_6.out).2.1); (case side3 => repeat (first | exact (Kd.V_reads' HO353.out).2.2 | (with_reducible refine Kd.C_alloc ?_ _) | (with_reducible refine Kd.C_drewN ?_ _) | (with_reducible refine Kd.C_drew ?_))); (case side4 => exact (Kd.V_reads' HO353.out).2.1); (case side5 => repeat (first | exact (Kd.V_reads' HO356.out).2.2 | (with_reducible refine Kd.C_alloc ?_ _) | (with_reducible refine Kd.C_drewN ?_ _) | (with_reducible refine Kd.C_drew ?_))); (case side6 => exact (Kd.V_reads' HO356.out).2.1); rintro e w38 ⟨v358, rfl, ho0, hb⟩; refine ⟨_, rfl, ?_⟩; have n0_ := Aside0.mk (Kd.R_elder' (by (with_reducible repeat (first | apply Kd.R_alloc | apply Kd.R_drewN | apply Kd.R_drew)); exact HO_6.out) (Kd.R_base ho0) hb); have n1_ := Aside0.mk (Kd.N_elder' (by (with_reducible repeat (first | apply Kd.N_alloc | apply Kd.N_drewN | apply Kd.N_drew)); exact HO_7.out) (Kd.R_base ho0) hb); have n2_ := Aside0.mk (Kd.R_below (by (with_reducible repeat (first | apply Kd.R_alloc | apply Kd.R_drewN | apply Kd.R_drew)); exact HO_8.out) hb); have n3_ := Aside0.mk (Kd.V_elder' (by (with_reducible repeat (first | apply Kd.V_alloc | apply Kd.V_drewN | apply Kd.V_drew)); exact HO353.out) (Kd.R_base ho0) hb); have n4_ := Aside0.mk (Kd.V_elder' (by (with_reducible repeat (first | apply Kd.V_alloc | apply Kd.V_drewN | apply Kd.V_drew)); exact HO356.out) (Kd.R_base ho0) hb); have n5_ := Aside0.mk (Kd.R_lower (Kd.R_new' ho0 (Kd.R_lt (by (with_reducible repeat (first | apply Kd.R_alloc | apply Kd.R_drewN | apply Kd.R_drew)); exact HO_6.out))) (below_size (by repeat (first | (with_reducible first | exact HB.out | apply below_alloc | apply pw_below_drewN | apply below_drew1) | exact HB.out)))); have n6_ := Aside0.mk (below_step (by repeat (first | (with_reducible first | exact HB.out | apply below_alloc | apply pw_below_drewN | apply below_drew1) | exact HB.out)) hb); clear HO_6; clear HO_7; clear HO_8; clear HO353; clear HO356; clear HB; have HO_6 := n0_; have HO_7 := n1_; have HO_8 := n2_; have HO353 := n3_; have HO356 := n4_; have HO359 := n5_; have HB := n6_; clear n0_ n1_ n2_ n3_ n4_ n5_ n6_; (try clear hb); (try clear hb2); (try clear hk); (try clear hi); (try clear ho0); obtain ⟨Ao39, co39, eo39⟩ := Kd.R_slice HO359.out; subst eo39))
                    go_roundg kj10
                    case measure => have := HK1.out; have := HJ10.out; omega
                    case rel => exact ⟨(x6_1), (x7_1), (x8_1), (wrap64 (x9_1 + 1)), (by first | rfl | (simp; done) | (simp [*]; done)), H', ⟨by have := HK1.out; have := HJ10.out; omega⟩, ⟨by (with_reducible repeat (first | apply Kd.R_alloc | apply Kd.R_drewN | apply Kd.R_drew)); exact Kd.R_mono HO_6.out (fun _ hk => trivial)⟩, ⟨by (with_reducible repeat (first | apply Kd.N_alloc | apply Kd.N_drewN | apply Kd.N_drew)); exact Kd.N_mono HO_7.out (fun _ hk => ⟨hk.1.1, hk.1.2⟩)⟩, ⟨by (with_reducible repeat (first | apply Kd.R_alloc | apply Kd.R_drewN | apply Kd.R_drew)); exact HO_8.out⟩, ⟨by repeat (first | (with_reducible first | exact HB.out | apply below_alloc | apply pw_below_drewN | apply below_drew1) | exact HB.out)⟩⟩
                  · rw [if_neg c33] at H
                    have c33b0 : ((t357.length : Int) == 0) = false := beq_eq_false_iff_ne.mpr c33
                    have c33b1 : ((t357.length : Int) != 0) = true := bne_iff_ne.mpr c33
                    have c33b2 : ¬ (t357 = []) := fun h_ => c33 (by rw [h_]; rfl)
                    obtain rfl := Option.some.inj H
                    have p348 : 0 ≤ (x9_1 : Int) := of_decide_eq_true (by first | (with_reducible assumption) | assumption)
                    have q348 : x9_1 < (l0.length : Int) := of_decide_eq_true (by first | (with_reducible assumption) | assumption)
                    obtain ⟨ad348, A348_2, c348_2, A348_3, c348_3, e348, hx348_0, hx348_1, hx348_2, hx348_3, hl348_2, hi348_2, hl348_3, hi348_3⟩ := at_T26 HR0.out x9_1 p348 q348
                    cases e348
                    replace hx348_0 := (HB.out.cell (World.block_lt_of_cell? w _ hx348_0)).trans hx348_0
                    replace hx348_1 := (HB.out.cell (World.block_lt_of_cell? w _ hx348_1)).trans hx348_1
                    replace hx348_2 := (HB.out.cell (World.block_lt_of_cell? w _ hx348_2)).trans hx348_2
                    replace hx348_3 := (HB.out.cell (World.block_lt_of_cell? w _ hx348_3)).trans hx348_3
                    have HR348_2 := Aside0.mk hi348_2
                    have HC348_2 := Aside0.mk hl348_2
                    clear hi348_2 hl348_2
                    have HR348_3 := Aside0.mk hi348_3
                    have HC348_3 := Aside0.mk hl348_3
                    clear hi348_3 hl348_3
                    replace p348 := eq_true p348
                    replace q348 := eq_true q348
                    go_wp2_with (first | ((with_reducible refine gate_callee (f := 11) rfl ?_); refine goesL_ (some 39) rfl rfl Try.func11 (by kernel_rfl) rfl #[.agg #[.string ((rd_T26 l0 x9_1).f0), .string ((rd_T26 l0 x9_1).f1), .slice A348_2 ((rd_T26 l0 x9_1).f2).length c348_2, .slice A348_3 ((rd_T26 l0 x9_1).f3).length c348_3]] rfl (by (try simp only [List.map_toArray, List.map_cons, List.map_nil]); first | done | rfl | (simp only [List.length_drop, List.length_take]; rfl)) ?_; (with_reducible refine (registrarlaw05_few.calls ((rd_T26 l0 x9_1).f0) ((rd_T26 l0 x9_1).f1) (fun k_ => k_ < w.heap.size) _ _ ((rd_T26 l0 x9_1).f2) (fun k_ => k_ < w.heap.size) _ _ ((rd_T26 l0 x9_1).f3) t349 t350 t351 t354 _ ?side1 ?side2 A16.out).mono ?_); (case side1 => exact Kd.V_mk HC348_2.out (Kd.F_below (Kd.C_F Kd.heap_string HR348_2.out) (by repeat (first | (with_reducible first | exact HB.out | apply below_alloc | apply pw_below_drewN | apply below_drew1) | exact HB.out)))); (case side2 => exact Kd.V_mk HC348_3.out (Kd.F_below (Kd.C_F k35_heap HR348_3.out) (by repeat (first | (with_reducible first | exact HB.out | apply below_alloc | apply pw_below_drewN | apply below_drew1) | exact HB.out)))); rintro e w40 ⟨v352, v355, rfl, ho0, ho1, hb⟩; refine ⟨_, rfl, ?_⟩; have n0_ := Aside0.mk (Kd.R_below (by (with_reducible repeat (first | apply Kd.R_alloc | apply Kd.R_drewN | apply Kd.R_drew)); exact HO_6.out) hb); have n1_ := Aside0.mk (Kd.N_below (by (with_reducible repeat (first | apply Kd.N_alloc | apply Kd.N_drewN | apply Kd.N_drew)); exact HO_7.out) hb); have n2_ := Aside0.mk (Kd.R_below (by (with_reducible repeat (first | apply Kd.R_alloc | apply Kd.R_drewN | apply Kd.R_drew)); exact HO_8.out) hb); have n3_ := Aside0.mk (Kd.V_lower (Kd.V_mono (ok' := fun k_ => some k_ ≠ (u6 : Value).ownBlock ∧ some k_ ≠ (u7 : Value).ownBlock ∧ some k_ ≠ (u8 : Value).ownBlock) ho0 (fun k_ hk_ => ⟨Or.elim hk_ (fun hs_ => Or.elim hs_ (fun hs_ => fun e_ => Nat.not_le.2 hs_ (Kd.R_base HO_6.out k_ e_.symm)) (fun hs_ => fun e_ => Nat.not_le.2 hs_ (Kd.R_base HO_6.out k_ e_.symm))) (fun hn_ => (Kd.fresh' (Kd.R_lt (by (with_reducible repeat (first | apply Kd.R_alloc | apply Kd.R_drewN | apply Kd.R_drew)); exact HO_6.out)) k_ hn_)), Or.elim hk_ (fun hs_ => Or.elim hs_ (fun hs_ => fun e_ => Nat.not_le.2 hs_ (Kd.N_base HO_7.out k_ e_.symm)) (fun hs_ => fun e_ => Nat.not_le.2 hs_ (Kd.N_base HO_7.out k_ e_.symm))) (fun hn_ => (Kd.fresh' (Kd.N_lt (by (with_reducible repeat (first | apply Kd.N_alloc | apply Kd.N_drewN | apply Kd.N_drew)); exact HO_7.out)) k_ hn_)), Or.elim hk_ (fun hs_ => Or.elim hs_ (fun hs_ => fun e_ => Nat.not_le.2 hs_ (Kd.R_base HO_8.out k_ e_.symm)) (fun hs_ => fun e_ => Nat.not_le.2 hs_ (Kd.R_base HO_8.out k_ e_.symm))) (fun hn_ => (Kd.fresh' (Kd.R_lt (by (with_reducible repeat (first | apply Kd.R_alloc | apply Kd.R_drewN | apply Kd.R_drew)); exact HO_8.out)) k_ hn_))⟩)) (below_size (by repeat (first | (with_reducible first | exact HB.out | apply below_alloc | apply pw_below_drewN | apply below_drew1) | exact HB.out)))); have n4_ := Aside0.mk (Kd.V_lower (Kd.V_mono (ok' := fun k_ => some k_ ≠ (u6 : Value).ownBlock ∧ some k_ ≠ (u7 : Value).ownBlock ∧ some k_ ≠ (u8 : Value).ownBlock) ho1 (fun k_ hk_ => ⟨Or.elim hk_ (fun hs_ => Or.elim hs_ (fun hs_ => fun e_ => Nat.not_le.2 hs_ (Kd.R_base HO_6.out k_ e_.symm)) (fun hs_ => fun e_ => Nat.not_le.2 hs_ (Kd.R_base HO_6.out k_ e_.symm))) (fun hn_ => (Kd.fresh' (Kd.R_lt (by (with_reducible repeat (first | apply Kd.R_alloc | apply Kd.R_drewN | apply Kd.R_drew)); exact HO_6.out)) k_ hn_)), Or.elim hk_ (fun hs_ => Or.elim hs_ (fun hs_ => fun e_ => Nat.not_le.2 hs_ (Kd.N_base HO_7.out k_ e_.symm)) (fun hs_ => fun e_ => Nat.not_le.2 hs_ (Kd.N_base HO_7.out k_ e_.symm))) (fun hn_ => (Kd.fresh' (Kd.N_lt (by (with_reducible repeat (first | apply Kd.N_alloc | apply Kd.N_drewN | apply Kd.N_drew)); exact HO_7.out)) k_ hn_)), Or.elim hk_ (fun hs_ => Or.elim hs_ (fun hs_ => fun e_ => Nat.not_le.2 hs_ (Kd.R_base HO_8.out k_ e_.symm)) (fun hs_ => fun e_ => Nat.not_le.2 hs_ (Kd.R_base HO_8.out k_ e_.symm))) (fun hn_ => (Kd.fresh' (Kd.R_lt (by (with_reducible repeat (first | apply Kd.R_alloc | apply Kd.R_drewN | apply Kd.R_drew)); exact HO_8.out)) k_ hn_))⟩)) (below_size (by repeat (first | (with_reducible first | exact HB.out | apply below_alloc | apply pw_below_drewN | apply below_drew1) | exact HB.out)))); have n5_ := Aside0.mk (below_step (by repeat (first | (with_reducible first | exact HB.out | apply below_alloc | apply pw_below_drewN | apply below_drew1) | exact HB.out)) hb); clear HO_6; clear HO_7; clear HO_8; clear HB; have HO_6 := n0_; have HO_7 := n1_; have HO_8 := n2_; have HO353 := n3_; have HO356 := n4_; have HB := n5_; clear n0_ n1_ n2_ n3_ n4_ n5_; (try clear hb); (try clear hb2); (try clear hk); (try clear hi); (try clear ho0); (try clear ho1); obtain ⟨Ao41, co41, eo41⟩ := Kd.R_slice HO_6.out; subst eo41; obtain ⟨Ao42, co42, eo42⟩ := Kd.V_slice HO353.out; subst eo42; obtain ⟨Ao43, co43, eo43⟩ := Kd.V_slice HO356.out; subst eo43) | ((with_reducible refine gate_callee (f := 10) rfl ?_); refine goesL_ (some 40) rfl rfl Try.func10 (by kernel_rfl) rfl #[.slice Ao41 x6_1.length co41, .agg #[.string t349, .string t350, .slice Ao42 t351.length co42, .slice Ao43 t354.length co43]] rfl (by (try simp only [List.map_toArray, List.map_cons, List.map_nil]); first | done | rfl | (simp only [List.length_drop, List.length_take]; rfl)) ?_; (with_reducible refine (evcode_PutG.calls _ _ x6_1 t349 t350 _ _ t351 _ _ t354 t357 t360 _ ?side1 ?side2 ?side3 ?side4 ?side5 ?side6 A17.out).mono ?_); (case side1 => repeat (first | exact (Kd.R_reads' HO_6.out).2.2 | (with_reducible refine Kd.C_alloc ?_ _) | (with_reducible refine Kd.C_drewN ?_ _) | (with_reducible refine Kd.C_drew ?_))); (case side2 => exact (Kd.R_reads' HO_6.out).2.1); (case side3 => repeat (first | exact (Kd.V_reads' HO353.out).2.2 | (with_reducible refine Kd.C_alloc ?_ _) | (with_reducible refine Kd.C_drewN ?_ _) | (with_reducible refine Kd.C_drew ?_))); (case side4 => exact (Kd.V_reads' HO353.out).2.1); (case side5 => repeat (first | exact (Kd.V_reads' HO356.out).2.2 | (with_reducible refine Kd.C_alloc ?_ _) | (with_reducible refine Kd.C_drewN ?_ _) | (with_reducible refine Kd.C_drew ?_))); (case side6 => exact (Kd.V_reads' HO356.out).2.1); rintro e w44 ⟨v358, rfl, ho0, hb⟩; refine ⟨_, rfl, ?_⟩; have n0_ := Aside0.mk (Kd.R_elder' (by (with_reducible repeat (first | apply Kd.R_alloc | apply Kd.R_drewN | apply Kd.R_drew)); exact HO_6.out) (Kd.R_base ho0) hb); have n1_ := Aside0.mk (Kd.N_elder' (by (with_reducible repeat (first | apply Kd.N_alloc | apply Kd.N_drewN | apply Kd.N_drew)); exact HO_7.out) (Kd.R_base ho0) hb); have n2_ := Aside0.mk (Kd.R_below (by (with_reducible repeat (first | apply Kd.R_alloc | apply Kd.R_drewN | apply Kd.R_drew)); exact HO_8.out) hb); have n3_ := Aside0.mk (Kd.V_elder' (by (with_reducible repeat (first | apply Kd.V_alloc | apply Kd.V_drewN | apply Kd.V_drew)); exact HO353.out) (Kd.R_base ho0) hb); have n4_ := Aside0.mk (Kd.V_elder' (by (with_reducible repeat (first | apply Kd.V_alloc | apply Kd.V_drewN | apply Kd.V_drew)); exact HO356.out) (Kd.R_base ho0) hb); have n5_ := Aside0.mk (Kd.R_lower (Kd.R_new' ho0 (Kd.R_lt (by (with_reducible repeat (first | apply Kd.R_alloc | apply Kd.R_drewN | apply Kd.R_drew)); exact HO_6.out))) (below_size (by repeat (first | (with_reducible first | exact HB.out | apply below_alloc | apply pw_below_drewN | apply below_drew1) | exact HB.out)))); have n6_ := Aside0.mk (below_step (by repeat (first | (with_reducible first | exact HB.out | apply below_alloc | apply pw_below_drewN | apply below_drew1) | exact HB.out)) hb); clear HO_6; clear HO_7; clear HO_8; clear HO353; clear HO356; clear HB; have HO_6 := n0_; have HO_7 := n1_; have HO_8 := n2_; have HO353 := n3_; have HO356 := n4_; have HO359 := n5_; have HB := n6_; clear n0_ n1_ n2_ n3_ n4_ n5_ n6_; (try clear hb); (try clear hb2); (try clear hk); (try clear hi); (try clear ho0); obtain ⟨Ao45, co45, eo45⟩ := Kd.R_slice HO359.out; subst eo45))
                    go_ret
                    exact ⟨by first | rfl | (simp [errW_none, errW_some] <;> rfl) | (simp [*, errW_none, errW_some] <;> rfl), by repeat (first | (with_reducible first | exact HB.out | apply below_alloc | apply pw_below_drewN | apply below_drew1) | exact HB.out)⟩
              · rw [if_neg c15] at H
                exact absurd H (by simp)
            · rw [if_neg c14] at H
              exact absurd H (by simp)
          · replace c13 := Bool.eq_false_iff.mpr c13
            subst c13
            have H1 : ((evcode_All.f x6_1).bind fun bt376 => ((registrarref04_SameAllG.f bt376.1 x7_1).bind fun t380 => (if t338 = true then (if bt376.2 = 0 then (registrarlaw05_EvcodeBack.j2 kj10 a1 x6_1 x7_1 x8_1 (!t380)) else (registrarlaw05_EvcodeBack.j2 kj10 a1 x6_1 x7_1 x8_1 true)) else (registrarlaw05_EvcodeBack.j2 kj10 a1 x6_1 x7_1 x8_1 true)))) = some r := by rw [if_neg (show ¬ (false = true) by decide)] at H; exact H
            clear H
            have H := H1
            clear H1
            replace H := Option.bind_eq_some_iff.mp H
            obtain ⟨⟨t376, t377⟩, A460, H⟩ := H
            replace H : ((registrarref04_SameAllG.f t376 x7_1).bind fun t380 => (if t338 = true then (if t377 = 0 then (registrarlaw05_EvcodeBack.j2 kj10 a1 x6_1 x7_1 x8_1 (!t380)) else (registrarlaw05_EvcodeBack.j2 kj10 a1 x6_1 x7_1 x8_1 true)) else (registrarlaw05_EvcodeBack.j2 kj10 a1 x6_1 x7_1 x8_1 true))) = some r := H
            have A46 := Aside0.mk A460
            clear A460
            replace H := Option.bind_eq_some_iff.mp H
            obtain ⟨t380, A470, H⟩ := H
            replace H : (if t338 = true then (if t377 = 0 then (registrarlaw05_EvcodeBack.j2 kj10 a1 x6_1 x7_1 x8_1 (!t380)) else (registrarlaw05_EvcodeBack.j2 kj10 a1 x6_1 x7_1 x8_1 true)) else (registrarlaw05_EvcodeBack.j2 kj10 a1 x6_1 x7_1 x8_1 true)) = some r := H
            have A47 := Aside0.mk A470
            clear A470
            have HC48 := Aside0.mk H
            clear H
            obtain ⟨Ao49, co49, eo49⟩ := Kd.R_slice HO_6.out
            subst eo49
            go_upto_region 17 with (first | ((with_reducible refine gate_callee (f := 18) rfl ?_); refine goesL_ (some 64) rfl rfl Try.func18 (by kernel_rfl) rfl #[.slice Ao49 x6_1.length co49] rfl (by (try simp only [List.map_toArray, List.map_cons, List.map_nil]); first | done | rfl | (simp only [List.length_drop, List.length_take]; rfl)) ?_; (with_reducible refine (evcode_All.calls _ _ x6_1 t376 t377 _ ?side1 ?side2 A46.out).mono ?_); (case side1 => repeat (first | exact (Kd.R_reads' HO_6.out).2.2 | (with_reducible refine Kd.C_alloc ?_ _) | (with_reducible refine Kd.C_drewN ?_ _) | (with_reducible refine Kd.C_drew ?_))); (case side2 => exact (Kd.R_reads' HO_6.out).2.1); rintro e w50 ⟨v378, rfl, ho0, hb⟩; refine ⟨_, rfl, ?_⟩; have n0_ := Aside0.mk (Kd.R_below (by (with_reducible repeat (first | apply Kd.R_alloc | apply Kd.R_drewN | apply Kd.R_drew)); exact HO_6.out) hb); have n1_ := Aside0.mk (Kd.N_elder' (by (with_reducible repeat (first | apply Kd.N_alloc | apply Kd.N_drewN | apply Kd.N_drew)); exact HO_7.out) (Kd.N_base (by first | exact ho0 | exact Kd.S_N ho0)) hb); have n2_ := Aside0.mk (Kd.R_below (by (with_reducible repeat (first | apply Kd.R_alloc | apply Kd.R_drewN | apply Kd.R_drew)); exact HO_8.out) hb); have n3_ := Aside0.mk (Kd.N_lower (Kd.N_mono (ok' := fun k_ => some k_ ≠ (.slice Ao49 x6_1.length co49 : Value).ownBlock ∧ some k_ ≠ (u7 : Value).ownBlock ∧ some k_ ≠ (u8 : Value).ownBlock) (Kd.S_N (Kd.S_bound ho0)) (fun k_ hk_ => ⟨(Kd.fresh' (Kd.R_lt (by (with_reducible repeat (first | apply Kd.R_alloc | apply Kd.R_drewN | apply Kd.R_drew)); exact HO_6.out)) k_ hk_.2.1), (Kd.fresh' (Kd.N_lt (by (with_reducible repeat (first | apply Kd.N_alloc | apply Kd.N_drewN | apply Kd.N_drew)); exact HO_7.out)) k_ hk_.2.1), (Kd.fresh' (Kd.R_lt (by (with_reducible repeat (first | apply Kd.R_alloc | apply Kd.R_drewN | apply Kd.R_drew)); exact HO_8.out)) k_ hk_.2.1)⟩)) (below_size (by repeat (first | (with_reducible first | exact HB.out | apply below_alloc | apply pw_below_drewN | apply below_drew1) | exact HB.out)))); have n4_ := Aside0.mk (below_step (by repeat (first | (with_reducible first | exact HB.out | apply below_alloc | apply pw_below_drewN | apply below_drew1) | exact HB.out)) hb); clear HO_6; clear HO_7; clear HO_8; clear HB; have HO_6 := n0_; have HO_7 := n1_; have HO_8 := n2_; have HO379 := n3_; have HB := n4_; clear n0_ n1_ n2_ n3_ n4_; (try clear hb); (try clear hb2); (try clear hk); (try clear hi); (try clear ho0); obtain ⟨Ao51, co51, eo51⟩ := Kd.N_slice HO379.out; subst eo51; obtain ⟨Ao52, co52, eo52⟩ := Kd.N_slice HO_7.out; subst eo52) | ((with_reducible refine gate_callee (f := 20) rfl ?_); refine goesL_ (some 69) rfl rfl Try.func20 (by kernel_rfl) rfl #[.slice Ao51 t376.length co51, .slice Ao52 x7_1.length co52] rfl (by (try simp only [List.map_toArray, List.map_cons, List.map_nil]); first | done | rfl | (simp only [List.length_drop, List.length_take]; rfl)) ?_; (with_reducible refine (registrarref04_SameAllG.calls _ _ t376 _ _ x7_1 t380 _ ?side1 ?side2 ?side3 ?side4 A47.out).mono ?_); (case side1 => repeat (first | exact (Kd.N_reads' HO379.out).2.2 | (with_reducible refine Kd.C_alloc ?_ _) | (with_reducible refine Kd.C_drewN ?_ _) | (with_reducible refine Kd.C_drew ?_))); (case side2 => exact (Kd.N_reads' HO379.out).2.1); (case side3 => repeat (first | exact (Kd.N_reads' HO_7.out).2.2 | (with_reducible refine Kd.C_alloc ?_ _) | (with_reducible refine Kd.C_drewN ?_ _) | (with_reducible refine Kd.C_drew ?_))); (case side4 => exact (Kd.N_reads' HO_7.out).2.1); rintro e w53 ⟨rfl, hb⟩; refine ⟨_, rfl, ?_⟩; have n0_ := Aside0.mk (Kd.R_below (by (with_reducible repeat (first | apply Kd.R_alloc | apply Kd.R_drewN | apply Kd.R_drew)); exact HO_6.out) hb); have n1_ := Aside0.mk (Kd.N_below (by (with_reducible repeat (first | apply Kd.N_alloc | apply Kd.N_drewN | apply Kd.N_drew)); exact HO_7.out) hb); have n2_ := Aside0.mk (Kd.R_below (by (with_reducible repeat (first | apply Kd.R_alloc | apply Kd.R_drewN | apply Kd.R_drew)); exact HO_8.out) hb); have n3_ := Aside0.mk (Kd.N_below (by (with_reducible repeat (first | apply Kd.N_alloc | apply Kd.N_drewN | apply Kd.N_drew)); exact HO379.out) hb); have n4_ := Aside0.mk (below_step (by repeat (first | (with_reducible first | exact HB.out | apply below_alloc | apply pw_below_drewN | apply below_drew1) | exact HB.out)) hb); clear HO_6; clear HO_7; clear HO_8; clear HO379; clear HB; have HO_6 := n0_; have HO_7 := n1_; have HO_8 := n2_; have HO379 := n3_; have HB := n4_; clear n0_ n1_ n2_ n3_ n4_; (try clear hb); (try clear hb2); (try clear hk); (try clear hi)))
            (try simp only [Act.put, List.setIfInBounds_toArray, List.set_cons_zero, List.set_cons_succ])
            go_cut [79] (fun v79 wc => ∃ (kq : Nat) (x79_47 : Bool), v79 = .bool x79_47 ∧ Aside0 (registrarlaw05_EvcodeBack.j2 kq a1 x6_1 x7_1 x8_1 x79_47 = some r) ∧ Aside0 (kq ≤ kj10) ∧ Aside0 (Kd.R (Kd.int .u8) 5 wc w.heap.size (fun _ => True) (.slice Ao49 x6_1.length co49) x6_1) ∧ Aside0 (Kd.N k26 26 wc w.heap.size (fun k_ => some k_ ≠ ((.slice Ao49 x6_1.length co49) : Value).ownBlock ∧ some k_ ≠ (u8 : Value).ownBlock) (.slice Ao52 x7_1.length co52) x7_1) ∧ Aside0 (Kd.R (Kd.int .i64) 3 wc w.heap.size (fun _ => True) u8 x8_1) ∧ Aside0 (Below w.heap.size w wc))
            case first =>
              have H := HC48.out
              clear HC48
              by_cases c54 : t338 = true
              · subst c54
                have H1 : (if t377 = 0 then (registrarlaw05_EvcodeBack.j2 kj10 a1 x6_1 x7_1 x8_1 (!t380)) else (registrarlaw05_EvcodeBack.j2 kj10 a1 x6_1 x7_1 x8_1 true)) = some r := by rw [if_pos rfl] at H; exact H
                clear H
                have H := H1
                clear H1
                by_cases c55 : t377 = 0
                · rw [if_pos c55] at H
                  have c55b0 : (t377 == 0) = true := beq_iff_eq.mpr c55
                  have c55b1 : (t377 != 0) = false := bne_eq_false_iff_eq.mpr c55
                  clear c55
                  (first | rw [c55b0] | (simp only [i64_w, i32_w]; rw [c55b0]) | skip)
                  have H' := Aside0.mk H
                  clear H
                  go_wp2
                  go_meet
                  case rel => exact ⟨_, (!t380), (by first | rfl | (simp; done) | (simp [*]; done)), H', ⟨by have := HK1.out; have := HJ10.out; first | omega | exact Nat.le_refl _⟩, ⟨by (with_reducible repeat (first | apply Kd.R_alloc | apply Kd.R_drewN | apply Kd.R_drew)); exact HO_6.out⟩, ⟨by (with_reducible repeat (first | apply Kd.N_alloc | apply Kd.N_drewN | apply Kd.N_drew)); exact Kd.N_mono HO_7.out (fun _ hk => ⟨hk.1.1, hk.1.2⟩)⟩, ⟨by (with_reducible repeat (first | apply Kd.R_alloc | apply Kd.R_drewN | apply Kd.R_drew)); exact HO_8.out⟩, ⟨by repeat (first | (with_reducible first | exact HB.out | apply below_alloc | apply pw_below_drewN | apply below_drew1) | exact HB.out)⟩⟩
                · rw [if_neg c55] at H
                  have c55b0 : (t377 == 0) = false := beq_eq_false_iff_ne.mpr c55
                  have c55b1 : (t377 != 0) = true := bne_iff_ne.mpr c55
                  (first | rw [c55b0] | (simp only [i64_w, i32_w]; rw [c55b0]) | skip)
                  have H' := Aside0.mk H
                  clear H
                  go_wp2
                  go_meet
                  case rel => exact ⟨_, (true), (by first | rfl | (simp; done) | (simp [*]; done)), H', ⟨by have := HK1.out; have := HJ10.out; first | omega | exact Nat.le_refl _⟩, ⟨by (with_reducible repeat (first | apply Kd.R_alloc | apply Kd.R_drewN | apply Kd.R_drew)); exact HO_6.out⟩, ⟨by (with_reducible repeat (first | apply Kd.N_alloc | apply Kd.N_drewN | apply Kd.N_drew)); exact Kd.N_mono HO_7.out (fun _ hk => ⟨hk.1.1, hk.1.2⟩)⟩, ⟨by (with_reducible repeat (first | apply Kd.R_alloc | apply Kd.R_drewN | apply Kd.R_drew)); exact HO_8.out⟩, ⟨by repeat (first | (with_reducible first | exact HB.out | apply below_alloc | apply pw_below_drewN | apply below_drew1) | exact HB.out)⟩⟩
              · replace c54 := Bool.eq_false_iff.mpr c54
                subst c54
                have H1 : (registrarlaw05_EvcodeBack.j2 kj10 a1 x6_1 x7_1 x8_1 true) = some r := by rw [if_neg (show ¬ (false = true) by decide)] at H; exact H
                clear H
                have H := H1
                clear H1
                have H' := Aside0.mk H
                clear H
                go_wp2
                go_meet
                case rel => exact ⟨_, (true), (by first | rfl | (simp; done) | (simp [*]; done)), H', ⟨by have := HK1.out; have := HJ10.out; first | omega | exact Nat.le_refl _⟩, ⟨by (with_reducible repeat (first | apply Kd.R_alloc | apply Kd.R_drewN | apply Kd.R_drew)); exact HO_6.out⟩, ⟨by (with_reducible repeat (first | apply Kd.N_alloc | apply Kd.N_drewN | apply Kd.N_drew)); exact Kd.N_mono HO_7.out (fun _ hk => ⟨hk.1.1, hk.1.2⟩)⟩, ⟨by (with_reducible repeat (first | apply Kd.R_alloc | apply Kd.R_drewN | apply Kd.R_drew)); exact HO_8.out⟩, ⟨by repeat (first | (with_reducible first | exact HB.out | apply below_alloc | apply pw_below_drewN | apply below_drew1) | exact HB.out)⟩⟩
            case rest =>
              clear HC48
              try clear c1
              try clear c2
              try clear p2
              try clear c3
              try clear p3
              try clear q3
              try clear hx3
              try clear c5
              try clear p6
              try clear c7
              try clear c9
              try clear c10
              try clear c11
              try clear c12
              try clear c12b0
              try clear c13
              try clear c14
              try clear c14b0
              try clear c15
              try clear c15b0
              try clear c18
              try clear c18b0
              try clear c18b1
              try clear c20
              try clear c21
              try clear c33
              try clear c33b0
              try clear c33b1
              try clear c33b2
              try clear c34
              try clear p34
              try clear q34
              try clear hx34
              try clear c36
              try clear p36
              try clear q36
              try clear hx36
              try clear c54
              try clear c55
              try clear c55b0
              try clear c55b1
              try clear hx348_0
              try clear hx348_1
              try clear hx348_2
              try clear hx348_3
              try clear hx361_0
              try clear hx361_1
              try clear hx361_2
              try clear hx361_3
              try clear p2
              try clear p348
              try clear p361
              try clear q348
              try clear q361
              obtain ⟨kq, x79_47, rfl, HA, HJ47, HO_6, HO_7, HO_8, HB⟩ := hcut
              cases kq with
              | zero => exact absurd HA.out (by simp [registrarlaw05_EvcodeBack.j2])
              | succ kj47 =>
                have H := HA.out
                clear HA
                simp only [registrarlaw05_EvcodeBack.j2] at H
                by_cases c56 : x79_47 = true
                · subst c56
                  have H1 : (some false) = some r := by rw [if_pos rfl] at H; exact H
                  clear H
                  have H := H1
                  clear H1
                  obtain rfl := Option.some.inj H
                  go_wp2
                  go_ret
                  exact ⟨by first | rfl | (simp [errW_none, errW_some] <;> rfl) | (simp [*, errW_none, errW_some] <;> rfl), by repeat (first | (with_reducible first | exact HB.out | apply below_alloc | apply pw_below_drewN | apply below_drew1) | exact HB.out)⟩
                · replace c56 := Bool.eq_false_iff.mpr c56
                  subst c56
                  have H1 : (if a1 < 0 then (registrarlaw05_EvcodeBack.j3 kj47 a1 x6_1 x7_1 x8_1 true) else (registrarlaw05_EvcodeBack.j3 kj47 a1 x6_1 x7_1 x8_1 (decide (a1 ≥ (x6_1.length : Int))))) = some r := by rw [if_neg (show ¬ (false = true) by decide)] at H; exact H
                  clear H
                  have H := H1
                  clear H1
                  have HC57 := Aside0.mk H
                  clear H
                  go_upto_region 19 with (fail)
                  go_cut [87] (fun v87 wc => ∃ (kq : Nat) (x87_56 : Bool), v87 = .bool x87_56 ∧ Aside0 (registrarlaw05_EvcodeBack.j3 kq a1 x6_1 x7_1 x8_1 x87_56 = some r) ∧ Aside0 (kq ≤ kj47) ∧ Aside0 (Kd.R (Kd.int .u8) 5 wc w.heap.size (fun _ => True) (.slice Ao49 x6_1.length co49) x6_1) ∧ Aside0 (Kd.N k26 26 wc w.heap.size (fun k_ => some k_ ≠ ((.slice Ao49 x6_1.length co49) : Value).ownBlock ∧ some k_ ≠ (u8 : Value).ownBlock) (.slice Ao52 x7_1.length co52) x7_1) ∧ Aside0 (Kd.R (Kd.int .i64) 3 wc w.heap.size (fun _ => True) u8 x8_1) ∧ Aside0 (Below w.heap.size w wc))
                  case first =>
                    have H := HC57.out
                    clear HC57
                    by_cases c58 : a1 < 0
                    · rw [if_pos c58] at H
                      have c58b0 : decide (a1 < 0) = true := decide_eq_true c58
                      clear c58
                      (first | rw [c58b0] | (simp only [i64_w, i32_w]; rw [c58b0]) | skip)
                      have H' := Aside0.mk H
                      clear H
                      go_wp2
                      go_meet
                      case rel => exact ⟨_, (true), (by first | rfl | (simp; done) | (simp [*]; done)), H', ⟨by have := HK1.out; have := HJ10.out; have := HJ47.out; first | omega | exact Nat.le_refl _⟩, ⟨by (with_reducible repeat (first | apply Kd.R_alloc | apply Kd.R_drewN | apply Kd.R_drew)); exact HO_6.out⟩, ⟨by (with_reducible repeat (first | apply Kd.N_alloc | apply Kd.N_drewN | apply Kd.N_drew)); exact HO_7.out⟩, ⟨by (with_reducible repeat (first | apply Kd.R_alloc | apply Kd.R_drewN | apply Kd.R_drew)); exact HO_8.out⟩, ⟨by repeat (first | (with_reducible first | exact HB.out | apply below_alloc | apply pw_below_drewN | apply below_drew1) | exact HB.out)⟩⟩
                    · rw [if_neg c58] at H
                      have c58b0 : decide (a1 < 0) = false := decide_eq_false c58
                      clear c58
                      (first | rw [c58b0] | (simp only [i64_w, i32_w]; rw [c58b0]) | skip)
                      have H' := Aside0.mk H
                      clear H
                      go_wp2
                      go_meet
                      case rel => exact ⟨_, (decide (a1 ≥ (x6_1.length : Int))), (by first | rfl | (simp; done) | (simp [*]; done)), H', ⟨by have := HK1.out; have := HJ10.out; have := HJ47.out; first | omega | exact Nat.le_refl _⟩, ⟨by (with_reducible repeat (first | apply Kd.R_alloc | apply Kd.R_drewN | apply Kd.R_drew)); exact HO_6.out⟩, ⟨by (with_reducible repeat (first | apply Kd.N_alloc | apply Kd.N_drewN | apply Kd.N_drew)); exact HO_7.out⟩, ⟨by (with_reducible repeat (first | apply Kd.R_alloc | apply Kd.R_drewN | apply Kd.R_drew)); exact HO_8.out⟩, ⟨by repeat (first | (with_reducible first | exact HB.out | apply below_alloc | apply pw_below_drewN | apply below_drew1) | exact HB.out)⟩⟩
                  case rest =>
                    clear HC57
                    try clear c1
                    try clear c2
                    try clear p2
                    try clear c3
                    try clear p3
                    try clear q3
                    try clear hx3
                    try clear c5
                    try clear p6
                    try clear c7
                    try clear c9
                    try clear c10
                    try clear c11
                    try clear c12
                    try clear c12b0
                    try clear c13
                    try clear c14
                    try clear c14b0
                    try clear c15
                    try clear c15b0
                    try clear c18
                    try clear c18b0
                    try clear c18b1
                    try clear c20
                    try clear c21
                    try clear c33
                    try clear c33b0
                    try clear c33b1
                    try clear c33b2
                    try clear c34
                    try clear p34
                    try clear q34
                    try clear hx34
                    try clear c36
                    try clear p36
                    try clear q36
                    try clear hx36
                    try clear c54
                    try clear c55
                    try clear c55b0
                    try clear c55b1
                    try clear c56
                    try clear c58
                    try clear c58b0
                    try clear hx348_0
                    try clear hx348_1
                    try clear hx348_2
                    try clear hx348_3
                    try clear hx361_0
                    try clear hx361_1
                    try clear hx361_2
                    try clear hx361_3
                    try clear p2
                    try clear p3
                    try clear p34
                    try clear p348
                    try clear p36
                    try clear p361
                    try clear p6
                    try clear q3
                    try clear q34
                    try clear q348
                    try clear q36
                    try clear q361
                    obtain ⟨kq, x87_56, rfl, HA, HJ56, HO_6, HO_7, HO_8, HB⟩ := hcut
                    cases kq with
                    | zero => exact absurd HA.out (by simp [registrarlaw05_EvcodeBack.j3])
                    | succ kj56 =>
                      have H := HA.out
                      clear HA
                      simp only [registrarlaw05_EvcodeBack.j3] at H
                      by_cases c59 : x87_56 = true
                      · subst c59
                        have H1 : (some true) = some r := by rw [if_pos rfl] at H; exact H
                        clear H
                        have H := H1
                        clear H1
                        obtain rfl := Option.some.inj H
                        go_wp2
                        go_ret
                        exact ⟨by first | rfl | (simp [errW_none, errW_some] <;> rfl) | (simp [*, errW_none, errW_some] <;> rfl), by repeat (first | (with_reducible first | exact HB.out | apply below_alloc | apply pw_below_drewN | apply below_drew1) | exact HB.out)⟩
                      · replace c59 := Bool.eq_false_iff.mpr c59
                        subst c59
                        have H1 : (registrarlaw05_EvcodeBack.l1 kj56 a1 x6_1 x7_1 x8_1 (-1) 0) = some r := by rw [if_neg (show ¬ (false = true) by decide)] at H; exact H
                        clear H
                        have H := H1
                        clear H1
                        have H' := Aside0.mk H
                        clear H
                        go_wp2
                        go_loopg [15, 16] kj56 (fun kq v15 v16 w' => ∃ (x15_5 : Int) (x16_5 : Int), v15 = .int .i64 x15_5 ∧ v16 = .int .i64 x16_5 ∧ Aside0 (registrarlaw05_EvcodeBack.l1 kq a1 x6_1 x7_1 x8_1 x15_5 x16_5 = some r) ∧ Aside0 (kq ≤ kj56) ∧ Aside0 (Kd.R (Kd.int .u8) 5 w' w.heap.size (fun _ => True) (.slice Ao49 x6_1.length co49) x6_1) ∧ Aside0 (Kd.N k26 26 w' w.heap.size (fun k_ => some k_ ≠ ((.slice Ao49 x6_1.length co49) : Value).ownBlock ∧ some k_ ≠ (u8 : Value).ownBlock) (.slice Ao52 x7_1.length co52) x7_1) ∧ Aside0 (Kd.R (Kd.int .i64) 3 w' w.heap.size (fun _ => True) u8 x8_1) ∧ Aside0 (Below w.heap.size w w'))
                        case atStart => exact ⟨((-1)), (0), (by first | rfl | (simp; done) | (simp [*]; done)), (by first | rfl | (simp; done) | (simp [*]; done)), H', ⟨Nat.le_refl _⟩, ⟨by (with_reducible repeat (first | apply Kd.R_alloc | apply Kd.R_drewN | apply Kd.R_drew)); exact HO_6.out⟩, ⟨by (with_reducible repeat (first | apply Kd.N_alloc | apply Kd.N_drewN | apply Kd.N_drew)); exact HO_7.out⟩, ⟨by (with_reducible repeat (first | apply Kd.R_alloc | apply Kd.R_drewN | apply Kd.R_drew)); exact HO_8.out⟩, ⟨by repeat (first | (with_reducible first | exact HB.out | apply below_alloc | apply pw_below_drewN | apply below_drew1) | exact HB.out)⟩⟩
                        case round =>
                          clear H'
                          try clear c1
                          try clear c2
                          try clear p2
                          try clear c3
                          try clear p3
                          try clear q3
                          try clear hx3
                          try clear c5
                          try clear p6
                          try clear c7
                          try clear c9
                          try clear c10
                          try clear c11
                          try clear c12
                          try clear c12b0
                          try clear c13
                          try clear c14
                          try clear c14b0
                          try clear c15
                          try clear c15b0
                          try clear c18
                          try clear c18b0
                          try clear c18b1
                          try clear c20
                          try clear c21
                          try clear c33
                          try clear c33b0
                          try clear c33b1
                          try clear c33b2
                          try clear c34
                          try clear p34
                          try clear q34
                          try clear hx34
                          try clear c36
                          try clear p36
                          try clear q36
                          try clear hx36
                          try clear c54
                          try clear c55
                          try clear c55b0
                          try clear c55b1
                          try clear c56
                          try clear c58
                          try clear c58b0
                          try clear c59
                          try clear hx348_0
                          try clear hx348_1
                          try clear hx348_2
                          try clear hx348_3
                          try clear hx361_0
                          try clear hx361_1
                          try clear hx361_2
                          try clear hx361_3
                          try clear p2
                          try clear p3
                          try clear p34
                          try clear p348
                          try clear p36
                          try clear p361
                          try clear p6
                          try clear q3
                          try clear q34
                          try clear q348
                          try clear q36
                          try clear q361
                          obtain ⟨x15_5, x16_5, rfl, rfl, HA, HK5, HO_6, HO_7, HO_8, HB⟩ := hrel
                          cases gk with
                          | zero => exact absurd HA.out (by simp [registrarlaw05_EvcodeBack.l1])
                          | succ k5 =>
                            have H := HA.out
                            clear HA
                            simp only [registrarlaw05_EvcodeBack.l1] at H
                            by_cases c60 : x16_5 < (x8_1.length : Int)
                            · rw [if_pos c60] at H
                              have c60b0 : decide (x16_5 < (x8_1.length : Int)) = true := decide_eq_true c60
                              clear c60
                              by_cases c61 : 0 ≤ x16_5
                              · rw [if_pos c61] at H
                                have c61b0 : decide (0 ≤ x16_5) = true := decide_eq_true c61
                                clear c61
                                by_cases c62 : (rd x8_1 x16_5) = a1
                                · rw [if_pos c62] at H
                                  have c62b0 : ((rd x8_1 x16_5) == a1) = true := beq_iff_eq.mpr c62
                                  have c62b1 : ((rd x8_1 x16_5) != a1) = false := bne_eq_false_iff_eq.mpr c62
                                  clear c62
                                  have H' := Aside0.mk H
                                  clear H
                                  obtain ⟨Ao63, co63, eo63⟩ := Kd.R_slice HO_8.out
                                  subst eo63
                                  have p381 : 0 ≤ (x16_5 : Int) := of_decide_eq_true (by first | (with_reducible assumption) | assumption)
                                  have q381 : x16_5 < (x8_1.length : Int) := of_decide_eq_true (by first | (with_reducible assumption) | assumption)
                                  obtain ⟨ad381, e381, hx381_0⟩ := Kd.at_int (Kd.R_reads' HO_8.out).2.2 x16_5 p381 q381
                                  cases e381
                                  replace p381 := eq_true p381
                                  replace q381 := eq_true q381
                                  go_wp2
                                  go_roundg k5
                                  case measure => have := HK1.out; have := HJ10.out; have := HJ47.out; have := HJ56.out; have := HK5.out; omega
                                  case rel => exact ⟨(x16_5), (wrap64 (x16_5 + 1)), (by first | rfl | (simp; done) | (simp [*]; done)), (by first | rfl | (simp; done) | (simp [*]; done)), H', ⟨by have := HK1.out; have := HJ10.out; have := HJ47.out; have := HJ56.out; have := HK5.out; omega⟩, ⟨by (with_reducible repeat (first | apply Kd.R_alloc | apply Kd.R_drewN | apply Kd.R_drew)); exact HO_6.out⟩, ⟨by (with_reducible repeat (first | apply Kd.N_alloc | apply Kd.N_drewN | apply Kd.N_drew)); exact HO_7.out⟩, ⟨by (with_reducible repeat (first | apply Kd.R_alloc | apply Kd.R_drewN | apply Kd.R_drew)); exact HO_8.out⟩, ⟨by repeat (first | (with_reducible first | exact HB.out | apply below_alloc | apply pw_below_drewN | apply below_drew1) | exact HB.out)⟩⟩
                                · rw [if_neg c62] at H
                                  have c62b0 : ((rd x8_1 x16_5) == a1) = false := beq_eq_false_iff_ne.mpr c62
                                  have c62b1 : ((rd x8_1 x16_5) != a1) = true := bne_iff_ne.mpr c62
                                  have H' := Aside0.mk H
                                  clear H
                                  obtain ⟨Ao64, co64, eo64⟩ := Kd.R_slice HO_8.out
                                  subst eo64
                                  have p381 : 0 ≤ (x16_5 : Int) := of_decide_eq_true (by first | (with_reducible assumption) | assumption)
                                  have q381 : x16_5 < (x8_1.length : Int) := of_decide_eq_true (by first | (with_reducible assumption) | assumption)
                                  obtain ⟨ad381, e381, hx381_0⟩ := Kd.at_int (Kd.R_reads' HO_8.out).2.2 x16_5 p381 q381
                                  cases e381
                                  replace p381 := eq_true p381
                                  replace q381 := eq_true q381
                                  go_wp2
                                  go_roundg k5
                                  case measure => have := HK1.out; have := HJ10.out; have := HJ47.out; have := HJ56.out; have := HK5.out; omega
                                  case rel => exact ⟨(x15_5), (wrap64 (x16_5 + 1)), (by first | rfl | (simp; done) | (simp [*]; done)), (by first | rfl | (simp; done) | (simp [*]; done)), H', ⟨by have := HK1.out; have := HJ10.out; have := HJ47.out; have := HJ56.out; have := HK5.out; omega⟩, ⟨by (with_reducible repeat (first | apply Kd.R_alloc | apply Kd.R_drewN | apply Kd.R_drew)); exact HO_6.out⟩, ⟨by (with_reducible repeat (first | apply Kd.N_alloc | apply Kd.N_drewN | apply Kd.N_drew)); exact HO_7.out⟩, ⟨by (with_reducible repeat (first | apply Kd.R_alloc | apply Kd.R_drewN | apply Kd.R_drew)); exact HO_8.out⟩, ⟨by repeat (first | (with_reducible first | exact HB.out | apply below_alloc | apply pw_below_drewN | apply below_drew1) | exact HB.out)⟩⟩
                              · rw [if_neg c61] at H
                                exact absurd H (by simp)
                            · rw [if_neg c60] at H
                              have c60b0 : decide (x16_5 < (x8_1.length : Int)) = false := decide_eq_false c60
                              clear c60
                              by_cases c65 : 0 ≤ a1
                              · rw [if_pos c65] at H
                                have c65b0 := eq_true c65
                                have c65b1 : decide (0 ≤ a1) = true := decide_eq_true c65
                                clear c65
                                by_cases c66 : a1 ≤ (x6_1.length : Int)
                                · rw [if_pos c66] at H
                                  have c66b0 := eq_true c66
                                  have c66b1 : decide (a1 ≤ (x6_1.length : Int)) = true := decide_eq_true c66
                                  clear c66
                                  obtain ⟨y382, hy382⟩ : ∃ y_ : List Int, y_ = (x6_1.take (a1 : Int).toNat) := ⟨_, rfl⟩
                                  replace H : ((evcode_All.f y382).bind fun bt387 => (if x15_5 < 0 then (if bt387.2 = 2 then (some ((bt387.1.length : Int) == 0)) else (some false)) else (if bt387.2 = 0 then (if 0 ≤ x15_5 then (if x15_5 ≤ (x7_1.length : Int) then ((registrarref04_SameAllG.f bt387.1 (x7_1.take (x15_5 : Int).toNat)).bind fun t396 => (some t396)) else (none)) else (none)) else (some false)))) = some r := by first | (rw [hy382]; with_reducible exact H) | (have H2_ := (Option.bind_some _ _).symm.trans H; rw [hy382]; with_reducible exact H2_) | (have H2_ := (Option.bind_some _ _).symm.trans H; with_reducible exact H2_) | with_reducible exact H | (rw [hy382]; exact H) | exact H
                                  have Ny382 := Aside0.mk hy382
                                  clear hy382
                                  replace H := Option.bind_eq_some_iff.mp H
                                  obtain ⟨⟨t387, t388⟩, A670, H⟩ := H
                                  replace H : (if x15_5 < 0 then (if t388 = 2 then (some ((t387.length : Int) == 0)) else (some false)) else (if t388 = 0 then (if 0 ≤ x15_5 then (if x15_5 ≤ (x7_1.length : Int) then ((registrarref04_SameAllG.f t387 (x7_1.take (x15_5 : Int).toNat)).bind fun t396 => (some t396)) else (none)) else (none)) else (some false))) = some r := H
                                  have A67 := Aside0.mk A670
                                  clear A670
                                  by_cases c68 : x15_5 < 0
                                  · rw [if_pos c68] at H
                                    have c68b0 : decide (x15_5 < 0) = true := decide_eq_true c68
                                    clear c68
                                    by_cases c69 : t388 = 2
                                    · rw [if_pos c69] at H
                                      have c69b0 : (t388 == 2) = true := beq_iff_eq.mpr c69
                                      have c69b1 : (t388 != 2) = false := bne_eq_false_iff_eq.mpr c69
                                      clear c69
                                      obtain rfl := Option.some.inj H
                                      obtain ⟨Ao70, co70, eo70⟩ := Kd.R_slice HO_8.out
                                      subst eo70
                                      have q71 : (a1 : Int) ≤ ((x6_1.length : Int) : Int) := of_decide_eq_true (by first | (with_reducible assumption) | assumption)
                                      obtain ⟨i071, hi071, _, hsz71, _⟩ := info_parts info5
                                      have hroom71 : x6_1.length ≤ co49 := (Kd.R_reads' HO_6.out).2.1
                                      have hC71 : Kd.F (Kd.int .u8) _ _ Ao49 x6_1.length x6_1 := (Kd.V_at (base := w.heap.size) (Kd.R_V (Kd.R_apart' (Kd.R_apart' (HO_6.out) (Kd.N_typed HO_7.out) (by decide)) (Kd.R_typed HO_8.out) (by decide)))).2.2
                                      have hcut71 := cut_to (P := Try.prog) 22 5 .i64 Try.underlying22 hi071 Ao49 x6_1.length co49 a1 (of_decide_eq_true (by first | (with_reducible assumption) | assumption)) q71 hroom71
                                      have hr71 := Kd.F_take (m := (a1 : Int).toNat) hC71 (by omega)
                                      have hy71 : y382.length = (a1 : Int).toNat := (by rw [Ny382.out, List.length_take]; omega)
                                      rw [← Ny382.out] at hr71
                                      rw [← hy71] at hcut71
                                      have HO386 := Aside0.mk (show Kd.V (Kd.int .u8) 5 _ w.heap.size _ (.slice Ao49 y382.length co49) y382 from Kd.V_mk (by omega) hr71)
                                      have HC386 := Aside0.mk (show y382.length ≤ co49 from by omega)
                                      clear hr71 hC71 hroom71 hi071 hsz71
                                      have KY71 := Aside0.mk hy71
                                      clear hy71
                                      replace q71 := eq_true q71
                                      go_wp2_with (first | ((with_reducible refine gate_callee (f := 18) rfl ?_); refine goesL_ (some 105) rfl rfl Try.func18 (by kernel_rfl) rfl #[.slice Ao49 y382.length co49] rfl (by (try simp only [List.map_toArray, List.map_cons, List.map_nil]); first | done | rfl | (simp only [List.length_drop, List.length_take]; rfl)) ?_; (with_reducible refine (evcode_All.calls _ _ y382 t387 t388 _ ?side1 ?side2 A67.out).mono ?_); (case side1 => repeat (first | exact (Kd.V_reads' HO386.out).2.2 | (with_reducible refine Kd.C_alloc ?_ _) | (with_reducible refine Kd.C_drewN ?_ _) | (with_reducible refine Kd.C_drew ?_))); (case side2 => exact (Kd.V_reads' HO386.out).2.1); rintro e w72 ⟨v389, rfl, ho0, hb⟩; refine ⟨_, rfl, ?_⟩; have n0_ := Aside0.mk (Kd.R_below (by (with_reducible repeat (first | apply Kd.R_alloc | apply Kd.R_drewN | apply Kd.R_drew)); exact HO_6.out) hb); have n1_ := Aside0.mk (Kd.N_elder' (by (with_reducible repeat (first | apply Kd.N_alloc | apply Kd.N_drewN | apply Kd.N_drew)); exact HO_7.out) (Kd.N_base (by first | exact ho0 | exact Kd.S_N ho0)) hb); have n2_ := Aside0.mk (Kd.R_below (by (with_reducible repeat (first | apply Kd.R_alloc | apply Kd.R_drewN | apply Kd.R_drew)); exact HO_8.out) hb); have n3_ := Aside0.mk (Kd.V_elder' (by (with_reducible repeat (first | apply Kd.V_alloc | apply Kd.V_drewN | apply Kd.V_drew)); exact HO386.out) (Kd.N_base (by first | exact ho0 | exact Kd.S_N ho0)) hb); have n4_ := Aside0.mk (Kd.N_lower (Kd.N_mono (ok' := fun k_ => some k_ ≠ (.slice Ao49 x6_1.length co49 : Value).ownBlock ∧ some k_ ≠ (.slice Ao52 x7_1.length co52 : Value).ownBlock ∧ some k_ ≠ (.slice Ao70 x8_1.length co70 : Value).ownBlock) (Kd.S_N (Kd.S_bound ho0)) (fun k_ hk_ => ⟨(Kd.fresh' (Kd.R_lt (by (with_reducible repeat (first | apply Kd.R_alloc | apply Kd.R_drewN | apply Kd.R_drew)); exact HO_6.out)) k_ hk_.2.1), (Kd.fresh' (Kd.N_lt (by (with_reducible repeat (first | apply Kd.N_alloc | apply Kd.N_drewN | apply Kd.N_drew)); exact HO_7.out)) k_ hk_.2.1), (Kd.fresh' (Kd.R_lt (by (with_reducible repeat (first | apply Kd.R_alloc | apply Kd.R_drewN | apply Kd.R_drew)); exact HO_8.out)) k_ hk_.2.1)⟩)) (below_size (by repeat (first | (with_reducible first | exact HB.out | apply below_alloc | apply pw_below_drewN | apply below_drew1) | exact HB.out)))); have n5_ := Aside0.mk (below_step (by repeat (first | (with_reducible first | exact HB.out | apply below_alloc | apply pw_below_drewN | apply below_drew1) | exact HB.out)) hb); clear HO_6; clear HO_7; clear HO_8; clear HO386; clear HB; have HO_6 := n0_; have HO_7 := n1_; have HO_8 := n2_; have HO386 := n3_; have HO390 := n4_; have HB := n5_; clear n0_ n1_ n2_ n3_ n4_ n5_; (try clear hb); (try clear hb2); (try clear hk); (try clear hi); (try clear ho0); obtain ⟨Ao73, co73, eo73⟩ := Kd.N_slice HO390.out; subst eo73))
                                      go_ret
                                      exact ⟨by first | rfl | (simp [errW_none, errW_some] <;> rfl) | (simp [*, errW_none, errW_some] <;> rfl), by repeat (first | (with_reducible first | exact HB.out | apply below_alloc | apply pw_below_drewN | apply below_drew1) | exact HB.out)⟩
                                    · rw [if_neg c69] at H
                                      have c69b0 : (t388 == 2) = false := beq_eq_false_iff_ne.mpr c69
                                      have c69b1 : (t388 != 2) = true := bne_iff_ne.mpr c69
                                      obtain rfl := Option.some.inj H
                                      obtain ⟨Ao74, co74, eo74⟩ := Kd.R_slice HO_8.out
                                      subst eo74
                                      have q75 : (a1 : Int) ≤ ((x6_1.length : Int) : Int) := of_decide_eq_true (by first | (with_reducible assumption) | assumption)
                                      obtain ⟨i075, hi075, _, hsz75, _⟩ := info_parts info5
                                      have hroom75 : x6_1.length ≤ co49 := (Kd.R_reads' HO_6.out).2.1
                                      have hC75 : Kd.F (Kd.int .u8) _ _ Ao49 x6_1.length x6_1 := (Kd.V_at (base := w.heap.size) (Kd.R_V (Kd.R_apart' (Kd.R_apart' (HO_6.out) (Kd.N_typed HO_7.out) (by decide)) (Kd.R_typed HO_8.out) (by decide)))).2.2
                                      have hcut75 := cut_to (P := Try.prog) 22 5 .i64 Try.underlying22 hi075 Ao49 x6_1.length co49 a1 (of_decide_eq_true (by first | (with_reducible assumption) | assumption)) q75 hroom75
                                      have hr75 := Kd.F_take (m := (a1 : Int).toNat) hC75 (by omega)
                                      have hy75 : y382.length = (a1 : Int).toNat := (by rw [Ny382.out, List.length_take]; omega)
                                      rw [← Ny382.out] at hr75
                                      rw [← hy75] at hcut75
                                      have HO386 := Aside0.mk (show Kd.V (Kd.int .u8) 5 _ w.heap.size _ (.slice Ao49 y382.length co49) y382 from Kd.V_mk (by omega) hr75)
                                      have HC386 := Aside0.mk (show y382.length ≤ co49 from by omega)
                                      clear hr75 hC75 hroom75 hi075 hsz75
                                      have KY75 := Aside0.mk hy75
                                      clear hy75
                                      replace q75 := eq_true q75
                                      go_wp2_with (first | ((with_reducible refine gate_callee (f := 18) rfl ?_); refine goesL_ (some 105) rfl rfl Try.func18 (by kernel_rfl) rfl #[.slice Ao49 y382.length co49] rfl (by (try simp only [List.map_toArray, List.map_cons, List.map_nil]); first | done | rfl | (simp only [List.length_drop, List.length_take]; rfl)) ?_; (with_reducible refine (evcode_All.calls _ _ y382 t387 t388 _ ?side1 ?side2 A67.out).mono ?_); (case side1 => repeat (first | exact (Kd.V_reads' HO386.out).2.2 | (with_reducible refine Kd.C_alloc ?_ _) | (with_reducible refine Kd.C_drewN ?_ _) | (with_reducible refine Kd.C_drew ?_))); (case side2 => exact (Kd.V_reads' HO386.out).2.1); rintro e w76 ⟨v389, rfl, ho0, hb⟩; refine ⟨_, rfl, ?_⟩; have n0_ := Aside0.mk (Kd.R_below (by (with_reducible repeat (first | apply Kd.R_alloc | apply Kd.R_drewN | apply Kd.R_drew)); exact HO_6.out) hb); have n1_ := Aside0.mk (Kd.N_elder' (by (with_reducible repeat (first | apply Kd.N_alloc | apply Kd.N_drewN | apply Kd.N_drew)); exact HO_7.out) (Kd.N_base (by first | exact ho0 | exact Kd.S_N ho0)) hb); have n2_ := Aside0.mk (Kd.R_below (by (with_reducible repeat (first | apply Kd.R_alloc | apply Kd.R_drewN | apply Kd.R_drew)); exact HO_8.out) hb); have n3_ := Aside0.mk (Kd.V_elder' (by (with_reducible repeat (first | apply Kd.V_alloc | apply Kd.V_drewN | apply Kd.V_drew)); exact HO386.out) (Kd.N_base (by first | exact ho0 | exact Kd.S_N ho0)) hb); have n4_ := Aside0.mk (Kd.N_lower (Kd.N_mono (ok' := fun k_ => some k_ ≠ (.slice Ao49 x6_1.length co49 : Value).ownBlock ∧ some k_ ≠ (.slice Ao52 x7_1.length co52 : Value).ownBlock ∧ some k_ ≠ (.slice Ao74 x8_1.length co74 : Value).ownBlock) (Kd.S_N (Kd.S_bound ho0)) (fun k_ hk_ => ⟨(Kd.fresh' (Kd.R_lt (by (with_reducible repeat (first | apply Kd.R_alloc | apply Kd.R_drewN | apply Kd.R_drew)); exact HO_6.out)) k_ hk_.2.1), (Kd.fresh' (Kd.N_lt (by (with_reducible repeat (first | apply Kd.N_alloc | apply Kd.N_drewN | apply Kd.N_drew)); exact HO_7.out)) k_ hk_.2.1), (Kd.fresh' (Kd.R_lt (by (with_reducible repeat (first | apply Kd.R_alloc | apply Kd.R_drewN | apply Kd.R_drew)); exact HO_8.out)) k_ hk_.2.1)⟩)) (below_size (by repeat (first | (with_reducible first | exact HB.out | apply below_alloc | apply pw_below_drewN | apply below_drew1) | exact HB.out)))); have n5_ := Aside0.mk (below_step (by repeat (first | (with_reducible first | exact HB.out | apply below_alloc | apply pw_below_drewN | apply below_drew1) | exact HB.out)) hb); clear HO_6; clear HO_7; clear HO_8; clear HO386; clear HB; have HO_6 := n0_; have HO_7 := n1_; have HO_8 := n2_; have HO386 := n3_; have HO390 := n4_; have HB := n5_; clear n0_ n1_ n2_ n3_ n4_ n5_; (try clear hb); (try clear hb2); (try clear hk); (try clear hi); (try clear ho0)))
                                      go_ret
                                      exact ⟨by first | rfl | (simp [errW_none, errW_some] <;> rfl) | (simp [*, errW_none, errW_some] <;> rfl), by repeat (first | (with_reducible first | exact HB.out | apply below_alloc | apply pw_below_drewN | apply below_drew1) | exact HB.out)⟩
                                  · rw [if_neg c68] at H
                                    have c68b0 : decide (x15_5 < 0) = false := decide_eq_false c68
                                    clear c68
                                    by_cases c77 : t388 = 0
                                    · rw [if_pos c77] at H
                                      have c77b0 : (t388 == 0) = true := beq_iff_eq.mpr c77
                                      have c77b1 : (t388 != 0) = false := bne_eq_false_iff_eq.mpr c77
                                      clear c77
                                      by_cases c78 : 0 ≤ x15_5
                                      · rw [if_pos c78] at H
                                        have c78b0 := eq_true c78
                                        have c78b1 : decide (0 ≤ x15_5) = true := decide_eq_true c78
                                        clear c78
                                        by_cases c79 : x15_5 ≤ (x7_1.length : Int)
                                        · rw [if_pos c79] at H
                                          have c79b0 := eq_true c79
                                          have c79b1 : decide (x15_5 ≤ (x7_1.length : Int)) = true := decide_eq_true c79
                                          clear c79
                                          obtain ⟨y391, hy391⟩ : ∃ y_ : List (S26), y_ = (x7_1.take (x15_5 : Int).toNat) := ⟨_, rfl⟩
                                          replace H : ((registrarref04_SameAllG.f t387 y391).bind fun t396 => (some t396)) = some r := by first | (rw [hy391]; with_reducible exact H) | (have H2_ := (Option.bind_some _ _).symm.trans H; rw [hy391]; with_reducible exact H2_) | (have H2_ := (Option.bind_some _ _).symm.trans H; with_reducible exact H2_) | with_reducible exact H | (rw [hy391]; exact H) | exact H
                                          have Ny391 := Aside0.mk hy391
                                          clear hy391
                                          replace H := Option.bind_eq_some_iff.mp H
                                          obtain ⟨t396, A800, H⟩ := H
                                          replace H : (some t396) = some r := H
                                          have A80 := Aside0.mk A800
                                          clear A800
                                          obtain rfl := Option.some.inj H
                                          obtain ⟨Ao81, co81, eo81⟩ := Kd.R_slice HO_8.out
                                          subst eo81
                                          have q82 : (a1 : Int) ≤ ((x6_1.length : Int) : Int) := of_decide_eq_true (by first | (with_reducible assumption) | assumption)
                                          obtain ⟨i082, hi082, _, hsz82, _⟩ := info_parts info5
                                          have hroom82 : x6_1.length ≤ co49 := (Kd.R_reads' HO_6.out).2.1
                                          have hC82 : Kd.F (Kd.int .u8) _ _ Ao49 x6_1.length x6_1 := (Kd.V_at (base := w.heap.size) (Kd.R_V (Kd.R_apart' (Kd.R_apart' (HO_6.out) (Kd.N_typed HO_7.out) (by decide)) (Kd.R_typed HO_8.out) (by decide)))).2.2
                                          have hcut82 := cut_to (P := Try.prog) 22 5 .i64 Try.underlying22 hi082 Ao49 x6_1.length co49 a1 (of_decide_eq_true (by first | (with_reducible assumption) | assumption)) q82 hroom82
                                          have hr82 := Kd.F_take (m := (a1 : Int).toNat) hC82 (by omega)
                                          have hy82 : y382.length = (a1 : Int).toNat := (by rw [Ny382.out, List.length_take]; omega)
                                          rw [← Ny382.out] at hr82
                                          rw [← hy82] at hcut82
                                          have HO386 := Aside0.mk (show Kd.V (Kd.int .u8) 5 _ w.heap.size _ (.slice Ao49 y382.length co49) y382 from Kd.V_mk (by omega) hr82)
                                          have HC386 := Aside0.mk (show y382.length ≤ co49 from by omega)
                                          clear hr82 hC82 hroom82 hi082 hsz82
                                          have KY82 := Aside0.mk hy82
                                          clear hy82
                                          replace q82 := eq_true q82
                                          go_wp2_with (first | ((with_reducible refine gate_callee (f := 18) rfl ?_); refine goesL_ (some 105) rfl rfl Try.func18 (by kernel_rfl) rfl #[.slice Ao49 y382.length co49] rfl (by (try simp only [List.map_toArray, List.map_cons, List.map_nil]); first | done | rfl | (simp only [List.length_drop, List.length_take]; rfl)) ?_; (with_reducible refine (evcode_All.calls _ _ y382 t387 t388 _ ?side1 ?side2 A67.out).mono ?_); (case side1 => repeat (first | exact (Kd.V_reads' HO386.out).2.2 | (with_reducible refine Kd.C_alloc ?_ _) | (with_reducible refine Kd.C_drewN ?_ _) | (with_reducible refine Kd.C_drew ?_))); (case side2 => exact (Kd.V_reads' HO386.out).2.1); rintro e w83 ⟨v389, rfl, ho0, hb⟩; refine ⟨_, rfl, ?_⟩; have n0_ := Aside0.mk (Kd.R_below (by (with_reducible repeat (first | apply Kd.R_alloc | apply Kd.R_drewN | apply Kd.R_drew)); exact HO_6.out) hb); have n1_ := Aside0.mk (Kd.N_elder' (by (with_reducible repeat (first | apply Kd.N_alloc | apply Kd.N_drewN | apply Kd.N_drew)); exact HO_7.out) (Kd.N_base (by first | exact ho0 | exact Kd.S_N ho0)) hb); have n2_ := Aside0.mk (Kd.R_below (by (with_reducible repeat (first | apply Kd.R_alloc | apply Kd.R_drewN | apply Kd.R_drew)); exact HO_8.out) hb); have n3_ := Aside0.mk (Kd.V_elder' (by (with_reducible repeat (first | apply Kd.V_alloc | apply Kd.V_drewN | apply Kd.V_drew)); exact HO386.out) (Kd.N_base (by first | exact ho0 | exact Kd.S_N ho0)) hb); have n4_ := Aside0.mk (Kd.N_lower (Kd.N_mono (ok' := fun k_ => some k_ ≠ (.slice Ao49 x6_1.length co49 : Value).ownBlock ∧ some k_ ≠ (.slice Ao52 x7_1.length co52 : Value).ownBlock ∧ some k_ ≠ (.slice Ao81 x8_1.length co81 : Value).ownBlock) (Kd.S_N (Kd.S_bound ho0)) (fun k_ hk_ => ⟨(Kd.fresh' (Kd.R_lt (by (with_reducible repeat (first | apply Kd.R_alloc | apply Kd.R_drewN | apply Kd.R_drew)); exact HO_6.out)) k_ hk_.2.1), (Kd.fresh' (Kd.N_lt (by (with_reducible repeat (first | apply Kd.N_alloc | apply Kd.N_drewN | apply Kd.N_drew)); exact HO_7.out)) k_ hk_.2.1), (Kd.fresh' (Kd.R_lt (by (with_reducible repeat (first | apply Kd.R_alloc | apply Kd.R_drewN | apply Kd.R_drew)); exact HO_8.out)) k_ hk_.2.1)⟩)) (below_size (by repeat (first | (with_reducible first | exact HB.out | apply below_alloc | apply pw_below_drewN | apply below_drew1) | exact HB.out)))); have n5_ := Aside0.mk (below_step (by repeat (first | (with_reducible first | exact HB.out | apply below_alloc | apply pw_below_drewN | apply below_drew1) | exact HB.out)) hb); clear HO_6; clear HO_7; clear HO_8; clear HO386; clear HB; have HO_6 := n0_; have HO_7 := n1_; have HO_8 := n2_; have HO386 := n3_; have HO390 := n4_; have HB := n5_; clear n0_ n1_ n2_ n3_ n4_ n5_; (try clear hb); (try clear hb2); (try clear hk); (try clear hi); (try clear ho0); have q84 : (x15_5 : Int) ≤ ((x7_1.length : Int) : Int) := of_decide_eq_true (by first | (with_reducible assumption) | assumption); obtain ⟨i084, hi084, _, hsz84, _⟩ := info_parts info26; have hroom84 : x7_1.length ≤ co52 := (Kd.N_reads' HO_7.out).2.1; have hC84 : Kd.F k26 _ _ Ao52 x7_1.length x7_1 := (Kd.V_at (base := w.heap.size) (Kd.N_V HO_7.out)).2.2; have hcut84 := cut_to (P := Try.prog) 46 26 .i64 Try.underlying46 hi084 Ao52 x7_1.length co52 x15_5 (of_decide_eq_true (by first | (with_reducible assumption) | assumption)) q84 hroom84; have hr84 := Kd.F_take (m := (x15_5 : Int).toNat) hC84 (by omega); have hy84 : y391.length = (x15_5 : Int).toNat := (by rw [Ny391.out, List.length_take]; omega); rw [← Ny391.out] at hr84; rw [← hy84] at hcut84; have HO395 := Aside0.mk (show Kd.V k26 26 _ w.heap.size _ (.slice Ao52 y391.length co52) y391 from Kd.V_mk (by omega) hr84); have HC395 := Aside0.mk (show y391.length ≤ co52 from by omega); clear hr84 hC84 hroom84 hi084 hsz84; have KY84 := Aside0.mk hy84; clear hy84; replace q84 := eq_true q84; obtain ⟨Ao85, co85, eo85⟩ := Kd.N_slice HO390.out; subst eo85) | (go_at_call 20; (with_reducible refine (registrarref04_SameAllG.calls _ _ t387 _ _ y391 t396 _ ?side1 ?side2 ?side3 ?side4 A80.out).mono ?_); (case side1 => repeat (first | exact (Kd.N_reads' HO390.out).2.2 | (with_reducible refine Kd.C_alloc ?_ _) | (with_reducible refine Kd.C_drewN ?_ _) | (with_reducible refine Kd.C_drew ?_))); (case side2 => exact (Kd.N_reads' HO390.out).2.1); (case side3 => repeat (first | exact (Kd.V_reads' HO395.out).2.2 | (with_reducible refine Kd.C_alloc ?_ _) | (with_reducible refine Kd.C_drewN ?_ _) | (with_reducible refine Kd.C_drew ?_))); (case side4 => exact (Kd.V_reads' HO395.out).2.1); rintro e w86 ⟨rfl, hb⟩; have n0_ := Aside0.mk (Kd.R_below (by (with_reducible repeat (first | apply Kd.R_alloc | apply Kd.R_drewN | apply Kd.R_drew)); exact HO_6.out) hb); have n1_ := Aside0.mk (Kd.N_below (by (with_reducible repeat (first | apply Kd.N_alloc | apply Kd.N_drewN | apply Kd.N_drew)); exact HO_7.out) hb); have n2_ := Aside0.mk (Kd.R_below (by (with_reducible repeat (first | apply Kd.R_alloc | apply Kd.R_drewN | apply Kd.R_drew)); exact HO_8.out) hb); have n3_ := Aside0.mk (Kd.V_below (by (with_reducible repeat (first | apply Kd.V_alloc | apply Kd.V_drewN | apply Kd.V_drew)); exact HO386.out) hb); have n4_ := Aside0.mk (Kd.N_below (by (with_reducible repeat (first | apply Kd.N_alloc | apply Kd.N_drewN | apply Kd.N_drew)); exact HO390.out) hb); have n5_ := Aside0.mk (Kd.V_below (by (with_reducible repeat (first | apply Kd.V_alloc | apply Kd.V_drewN | apply Kd.V_drew)); exact HO395.out) hb); have n6_ := Aside0.mk (below_step (by repeat (first | (with_reducible first | exact HB.out | apply below_alloc | apply pw_below_drewN | apply below_drew1) | exact HB.out)) hb); clear HO_6; clear HO_7; clear HO_8; clear HO386; clear HO390; clear HO395; clear HB; have HO_6 := n0_; have HO_7 := n1_; have HO_8 := n2_; have HO386 := n3_; have HO390 := n4_; have HO395 := n5_; have HB := n6_; clear n0_ n1_ n2_ n3_ n4_ n5_ n6_; (try clear hb); (try clear hb2); (try clear hk); (try clear hi)))
                                          go_ret
                                          exact ⟨by first | rfl | (simp [errW_none, errW_some] <;> rfl) | (simp [*, errW_none, errW_some] <;> rfl), by repeat (first | (with_reducible first | exact HB.out | apply below_alloc | apply pw_below_drewN | apply below_drew1) | exact HB.out)⟩
                                        · rw [if_neg c79] at H
                                          exact absurd H (by simp)
                                      · rw [if_neg c78] at H
                                        exact absurd H (by simp)
                                    · rw [if_neg c77] at H
                                      have c77b0 : (t388 == 0) = false := beq_eq_false_iff_ne.mpr c77
                                      have c77b1 : (t388 != 0) = true := bne_iff_ne.mpr c77
                                      obtain rfl := Option.some.inj H
                                      obtain ⟨Ao87, co87, eo87⟩ := Kd.R_slice HO_8.out
                                      subst eo87
                                      have q88 : (a1 : Int) ≤ ((x6_1.length : Int) : Int) := of_decide_eq_true (by first | (with_reducible assumption) | assumption)
                                      obtain ⟨i088, hi088, _, hsz88, _⟩ := info_parts info5
                                      have hroom88 : x6_1.length ≤ co49 := (Kd.R_reads' HO_6.out).2.1
                                      have hC88 : Kd.F (Kd.int .u8) _ _ Ao49 x6_1.length x6_1 := (Kd.V_at (base := w.heap.size) (Kd.R_V (Kd.R_apart' (Kd.R_apart' (HO_6.out) (Kd.N_typed HO_7.out) (by decide)) (Kd.R_typed HO_8.out) (by decide)))).2.2
                                      have hcut88 := cut_to (P := Try.prog) 22 5 .i64 Try.underlying22 hi088 Ao49 x6_1.length co49 a1 (of_decide_eq_true (by first | (with_reducible assumption) | assumption)) q88 hroom88
                                      have hr88 := Kd.F_take (m := (a1 : Int).toNat) hC88 (by omega)
                                      have hy88 : y382.length = (a1 : Int).toNat := (by rw [Ny382.out, List.length_take]; omega)
                                      rw [← Ny382.out] at hr88
                                      rw [← hy88] at hcut88
                                      have HO386 := Aside0.mk (show Kd.V (Kd.int .u8) 5 _ w.heap.size _ (.slice Ao49 y382.length co49) y382 from Kd.V_mk (by omega) hr88)
                                      have HC386 := Aside0.mk (show y382.length ≤ co49 from by omega)
                                      clear hr88 hC88 hroom88 hi088 hsz88
                                      have KY88 := Aside0.mk hy88
                                      clear hy88
                                      replace q88 := eq_true q88
                                      go_wp2_with (first | ((with_reducible refine gate_callee (f := 18) rfl ?_); refine goesL_ (some 105) rfl rfl Try.func18 (by kernel_rfl) rfl #[.slice Ao49 y382.length co49] rfl (by (try simp only [List.map_toArray, List.map_cons, List.map_nil]); first | done | rfl | (simp only [List.length_drop, List.length_take]; rfl)) ?_; (with_reducible refine (evcode_All.calls _ _ y382 t387 t388 _ ?side1 ?side2 A67.out).mono ?_); (case side1 => repeat (first | exact (Kd.V_reads' HO386.out).2.2 | (with_reducible refine Kd.C_alloc ?_ _) | (with_reducible refine Kd.C_drewN ?_ _) | (with_reducible refine Kd.C_drew ?_))); (case side2 => exact (Kd.V_reads' HO386.out).2.1); rintro e w89 ⟨v389, rfl, ho0, hb⟩; refine ⟨_, rfl, ?_⟩; have n0_ := Aside0.mk (Kd.R_below (by (with_reducible repeat (first | apply Kd.R_alloc | apply Kd.R_drewN | apply Kd.R_drew)); exact HO_6.out) hb); have n1_ := Aside0.mk (Kd.N_elder' (by (with_reducible repeat (first | apply Kd.N_alloc | apply Kd.N_drewN | apply Kd.N_drew)); exact HO_7.out) (Kd.N_base (by first | exact ho0 | exact Kd.S_N ho0)) hb); have n2_ := Aside0.mk (Kd.R_below (by (with_reducible repeat (first | apply Kd.R_alloc | apply Kd.R_drewN | apply Kd.R_drew)); exact HO_8.out) hb); have n3_ := Aside0.mk (Kd.V_elder' (by (with_reducible repeat (first | apply Kd.V_alloc | apply Kd.V_drewN | apply Kd.V_drew)); exact HO386.out) (Kd.N_base (by first | exact ho0 | exact Kd.S_N ho0)) hb); have n4_ := Aside0.mk (Kd.N_lower (Kd.N_mono (ok' := fun k_ => some k_ ≠ (.slice Ao49 x6_1.length co49 : Value).ownBlock ∧ some k_ ≠ (.slice Ao52 x7_1.length co52 : Value).ownBlock ∧ some k_ ≠ (.slice Ao87 x8_1.length co87 : Value).ownBlock) (Kd.S_N (Kd.S_bound ho0)) (fun k_ hk_ => ⟨(Kd.fresh' (Kd.R_lt (by (with_reducible repeat (first | apply Kd.R_alloc | apply Kd.R_drewN | apply Kd.R_drew)); exact HO_6.out)) k_ hk_.2.1), (Kd.fresh' (Kd.N_lt (by (with_reducible repeat (first | apply Kd.N_alloc | apply Kd.N_drewN | apply Kd.N_drew)); exact HO_7.out)) k_ hk_.2.1), (Kd.fresh' (Kd.R_lt (by (with_reducible repeat (first | apply Kd.R_alloc | apply Kd.R_drewN | apply Kd.R_drew)); exact HO_8.out)) k_ hk_.2.1)⟩)) (below_size (by repeat (first | (with_reducible first | exact HB.out | apply below_alloc | apply pw_below_drewN | apply below_drew1) | exact HB.out)))); have n5_ := Aside0.mk (below_step (by repeat (first | (with_reducible first | exact HB.out | apply below_alloc | apply pw_below_drewN | apply below_drew1) | exact HB.out)) hb); clear HO_6; clear HO_7; clear HO_8; clear HO386; clear HB; have HO_6 := n0_; have HO_7 := n1_; have HO_8 := n2_; have HO386 := n3_; have HO390 := n4_; have HB := n5_; clear n0_ n1_ n2_ n3_ n4_ n5_; (try clear hb); (try clear hb2); (try clear hk); (try clear hi); (try clear ho0)))
                                      go_ret
                                      exact ⟨by first | rfl | (simp [errW_none, errW_some] <;> rfl) | (simp [*, errW_none, errW_some] <;> rfl), by repeat (first | (with_reducible first | exact HB.out | apply below_alloc | apply pw_below_drewN | apply below_drew1) | exact HB.out)⟩
                                · rw [if_neg c66] at H
                                  exact absurd H (by simp)
                              · rw [if_neg c65] at H
                                exact absurd H (by simp)

end Go.Proofs.Ytmnidohgnnpeiaa.Prt
namespace Go.Proofs.Ytmnidohgnnpeiaa.Prt
open Go.RowKit Go.Proofs.YtmnidohgnnpeiaaW.PrintWords Go.Proofs.YtmnidohgnnpeiaaW.PrintLast Go.Proofs.YtmnidohgnnpeiaaW.PrintMore Go.Proofs.Ytmnidohgnnpeiaa.Num Go.Proofs.Ytmnidohgnnpeiaa.Nam
set_option linter.unusedVariables false
set_option linter.unusedSimpArgs false

/-- Where the events' bytes end. -/
def ends (g : List S26) : List Int := (List.range (g.length + 1)).map fun j => ((encEs (g.take j)).length : Int)
theorem ends_len (g : List S26) : (ends g).length = g.length + 1 := by unfold ends; rw [List.length_map, List.length_range]
theorem ends_snoc (g : List S26) (x : S26) : ends (g ++ [x]) = ends g ++ [((encEs (g ++ [x])).length : Int)] := by
  unfold ends
  rw [List.length_append, List.length_singleton, List.range_succ (n := g.length + 1), List.map_append, List.map_singleton]
  congr 1
  · refine List.map_congr_left (fun j hj => ?_)
    have := List.mem_range.1 hj
    rw [List.take_append_of_le_length (by omega)]
  · rw [List.take_of_length_le (by rw [List.length_append, List.length_singleton]; omega)]
theorem ends_rd (g : List S26) (j : Nat) (h : j ≤ g.length) : rd (ends g) (j : Int) = ((encEs (g.take j)).length : Int) := by
  unfold rd ends
  rw [Int.toNat_natCast, List.getD_eq_getElem?_getD, List.getElem?_map, List.getElem?_range (by omega)]; rfl
theorem encEs_snoc (g : List S26) (x : S26) : encEs (g ++ [x]) = encEs g ++ encX x := by rw [encEs_append]; congr 1; unfold encEs; simp
theorem back_l1 (g : List S26) (a : Int) (hg : ∀ x ∈ g, OkX x) (h12 : g.length ≤ 12) (ha : 0 ≤ a) (ha2 : a ≤ ((encEs g).length : Int)) :
    ∀ (n i k : Nat) (x : Int), i + n = g.length + 1 → n < k → ((x = -1 ∧ ∀ j, j < i → ((encEs (g.take j)).length : Int) ≠ a) ∨ ∃ j, j ≤ g.length ∧ x = (j : Int) ∧ ((encEs (g.take j)).length : Int) = a) →
      registrarlaw05_EvcodeBack.l1 k a (encEs g) g (ends g) x (i : Int) = some true := by
  intro n
  induction n with
  | zero =>
    intro i k x hi hk hx
    obtain ⟨k, rfl⟩ : ∃ m, k = m + 1 := ⟨k - 1, by omega⟩
    have hl := encEs_size g hg
    rw [registrarlaw05_EvcodeBack.l1, if_neg (by rw [ends_len]; omega), if_pos ha, if_pos ha2, all_ok (isBytes_take (encEs_bytes g) _) (by rw [List.length_take]; omega)]
    simp only [Option.bind_some]
    rcases hx with ⟨rfl, hx⟩ | ⟨j, hj, rfl, hx⟩
    · rw [if_pos (by omega)]
      rcases takeAll_code ((List.take a.toNat (encEs g)).length + 1) (List.take a.toNat (encEs g)) [] with h | h
      · exfalso
        have hh : takeAll ((List.take a.toNat (encEs g)).length + 1) (List.take a.toNat (encEs g)) [] = ((takeAll ((List.take a.toNat (encEs g)).length + 1) (List.take a.toNat (encEs g)) []).1, 0) := Prod.ext rfl h
        obtain ⟨r, e1, e2, e3⟩ := takeAll_good _ _ [] _ (isBytes_take (encEs_bytes g) a.toNat) (Nat.lt_succ_self _) hh
        obtain ⟨j, hj, e4⟩ := encEs_part r g ((encEs g).drop a.toNat) e2 hg (by rw [← e3, List.take_append_drop])
        refine hx j (by omega) ?_
        rw [← e4, ← e3, List.length_take]; omega
      · rw [h]; rfl
    · have e : (encEs g).take a.toNat = encEs (g.take j) := by
        have := encEs_take g j
        rw [show a.toNat = (encEs (g.take j)).length by omega]; exact this
      have hgj : ∀ x ∈ g.take j, OkX x := fun x hx => hg x (List.mem_of_mem_take hx)
      have hlo := encEs_long (g.take j)
      rw [if_neg (by omega), e, takeAll_enc _ _ _ hgj (by omega), if_pos rfl, if_pos (by omega), if_pos (by omega), List.nil_append, Int.toNat_natCast, sameAll_ok _ (by rw [List.length_take]; omega) hgj]; rfl
  | succ n ih =>
    intro i k x hi hk hx
    obtain ⟨k, rfl⟩ : ∃ m, k = m + 1 := ⟨k - 1, by omega⟩
    rw [registrarlaw05_EvcodeBack.l1, if_pos (by rw [ends_len]; omega), if_pos (by omega), ends_rd g i (by omega), succW i (by omega)]
    by_cases c : ((encEs (g.take i)).length : Int) = a
    · rw [if_pos c]
      exact ih (i + 1) k _ (by omega) (by omega) (.inr ⟨i, by omega, rfl, c⟩)
    · rw [if_neg c]
      refine ih (i + 1) k _ (by omega) (by omega) ?_
      rcases hx with ⟨h1, h2⟩ | h
      · refine .inl ⟨h1, fun j hj => ?_⟩
        by_cases e : j = i
        · rw [e]; exact c
        · exact h2 j (by omega)
      · exact .inr h
theorem back_end (x0 : List S26) (a : Int) (g : List S26) (i : Int) (k : Nat) (hg : ∀ x ∈ g, OkX x) (h12 : g.length ≤ 12) (hk : 20 ≤ k) :
    registrarlaw05_EvcodeBack.j1 k x0 a true (encEs g) g (ends g) i false = some true := by
  obtain ⟨k, rfl⟩ : ∃ m, k = m + 3 := ⟨k - 3, by omega⟩
  have hl := encEs_size g hg
  have hlo := encEs_long g
  rw [registrarlaw05_EvcodeBack.j1, if_neg (by simp), all_ok (encEs_bytes g) (by omega), takeAll_enc _ _ _ hg (by omega)]
  simp only [Option.bind_some, List.nil_append]
  rw [sameAll_ok g (by omega) hg]
  simp only [Option.bind_some, if_true]
  rw [registrarlaw05_EvcodeBack.j2, if_neg (by simp)]
  by_cases h0 : a < 0
  · rw [if_pos h0, registrarlaw05_EvcodeBack.j3, if_pos rfl]
  · rw [if_neg h0]
    by_cases h1 : a ≥ ((encEs g).length : Int)
    · rw [decide_eq_true h1, registrarlaw05_EvcodeBack.j3, if_pos rfl]
    · rw [decide_eq_false h1, registrarlaw05_EvcodeBack.j3, if_neg (by simp)]
      exact back_l1 g a hg h12 (by omega) (by omega) (g.length + 1) 0 k (-1) (by omega) (by omega) (.inl ⟨rfl, fun j hj => by omega⟩)
theorem back_l0 (x0 : List S26) (a : Int) (hf : ∀ x ∈ x0, Fits x.f0 x.f1 x.f2 x.f3) :
    ∀ (n i k : Nat) (g : List S26), i + n = 12 → 2 * n + 30 ≤ k → (∀ x ∈ g, OkX x) → g.length ≤ i → registrarlaw05_EvcodeBack.l0 k x0 a true (encEs g) g (ends g) (i : Int) = some true := by
  intro n
  induction n with
  | zero =>
    intro i k g hi hk hg hgi
    obtain ⟨k, rfl⟩ : ∃ m, k = m + 1 := ⟨k - 1, by omega⟩
    rw [registrarlaw05_EvcodeBack.l0]
    by_cases c : (i : Int) < (x0.length : Int)
    · rw [if_pos c, decide_eq_false (by omega)]; exact back_end x0 a g i k hg (by omega) (by omega)
    · rw [if_neg c]; exact back_end x0 a g i k hg (by omega) (by omega)
  | succ n ih =>
    intro i k g hi hk hg hgi
    obtain ⟨k, rfl⟩ : ∃ m, k = m + 2 := ⟨k - 2, by omega⟩
    rw [registrarlaw05_EvcodeBack.l0]
    by_cases c : (i : Int) < (x0.length : Int)
    · have hl := encEs_size g hg
      have hx := hf _ (rdE_mem (l := x0) (i := i) (by omega))
      rw [if_pos c, decide_eq_true (by omega), registrarlaw05_EvcodeBack.j1, if_pos rfl, if_pos (by omega), if_pos c, few05]
      simp only [Option.bind_some]
      rw [putG_ok (by omega) (take12 _) (fit_few hx)]
      simp only [Option.bind_some]
      by_cases h0 : mayE (rd_T26 x0 (i : Int)).f0 (rd_T26 x0 (i : Int)).f1 ((rd_T26 x0 (i : Int)).f2.take 12) ((rd_T26 x0 (i : Int)).f3.take 12) = 0
      · have ok := (okE_iff _ _ _ _).1 h0
        have e : encEs g ++ encEv (rd_T26 x0 (i : Int)).f0 (rd_T26 x0 (i : Int)).f1 ((rd_T26 x0 (i : Int)).f2.take 12) ((rd_T26 x0 (i : Int)).f3.take 12) = encEs (g ++ [(⟨(rd_T26 x0 (i : Int)).f0, (rd_T26 x0 (i : Int)).f1, (rd_T26 x0 (i : Int)).f2.take 12, (rd_T26 x0 (i : Int)).f3.take 12⟩ : S26)]) := (encEs_snoc g (⟨(rd_T26 x0 (i : Int)).f0, (rd_T26 x0 (i : Int)).f1, (rd_T26 x0 (i : Int)).f2.take 12, (rd_T26 x0 (i : Int)).f3.take 12⟩ : S26)).symm
        rw [if_pos h0]
        simp only [if_true]
        rw [if_pos (by omega), if_pos (by rw [ends_len]; omega), e, ← ends_snoc, succW i (by omega)]
        refine ih (i + 1) k _ (by omega) (by omega) ?_ (by rw [List.length_append, List.length_singleton]; omega)
        intro y hy
        rcases List.mem_append.1 hy with hy | hy
        · exact hg y hy
        · rw [List.mem_singleton.1 hy]; exact ok
      · rw [if_neg h0]
        simp only [if_neg h0]
        rw [if_pos (by simp), succW i (by omega)]
        exact ih (i + 1) k g (by omega) (by omega) hg (by omega)
    · rw [if_neg c]; exact back_end x0 a g i _ hg (by omega) (by omega)
theorem evcodeBack_true (l : List S26) (a : Int) (hf : ∀ x ∈ l, Fits x.f0 x.f1 x.f2 x.f3) : registrarlaw05_EvcodeBack.f 60 l a = some true := by
  unfold registrarlaw05_EvcodeBack.f
  rw [shown05]
  simp only [Option.bind_some]
  have h := back_l0 l a hf 12 0 60 [] (by omega) (by omega) (fun x hx => by simp at hx) (by simp)
  have e1 : encEs [] = [] := rfl
  have e2 : ends [] = [0] := rfl
  have e3 : ((0 : Nat) : Int) = 0 := rfl
  rw [e1, e2, e3] at h
  exact h
end Go.Proofs.Ytmnidohgnnpeiaa.Prt
namespace Go.Proofs.Ytmnidohgnnpeiaa.Gen
open Go.RowKit Go.Proofs.YtmnidohgnnpeiaaW.PrintWords Go.Proofs.YtmnidohgnnpeiaaW.PrintLast Go.Proofs.YtmnidohgnnpeiaaW.PrintMore
set_option linter.unusedVariables false
set_option linter.unusedSimpArgs false

theorem list_of {α : Type} {p : Nat → α → Prop} : ∀ n : Nat, (∀ i, i < n → ∃ x, p i x) → ∃ xs : List α, xs.length = n ∧ ∀ i x, xs[i]? = some x → p i x := by
  intro n
  induction n with
  | zero => exact fun _ => ⟨[], rfl, fun i x h => by simp at h⟩
  | succ n ih =>
    intro h
    obtain ⟨xs, h1, h2⟩ := ih (fun i hi => h i (by omega))
    obtain ⟨y, hy⟩ := h n (by omega)
    refine ⟨xs ++ [y], by simp [h1], fun i x hx => ?_⟩
    rcases Nat.lt_or_ge i xs.length with hi | hi
    · rw [List.getElem?_append_left hi] at hx; exact h2 i x hx
    · have hl := (List.getElem?_eq_some_iff.1 hx).1
      rw [List.length_append, List.length_singleton] at hl
      obtain rfl : i = xs.length := by omega
      rw [List.getElem?_append_right hi] at hx
      simp at hx
      subst hx
      rw [h1]; exact hy
/-- Whatever reads as data of type t stands as an x of kind k that is ok. -/
def Opens {α : Type} (P : Program) (t : TypeId) (k : Kd α) (ok : α → Prop) : Prop :=
  ∀ {H : Type} (enc : TypeId × Value → H) (w : World) (base : Nat) (spare : Nat → Bool) (held : Bool) (fuel : Nat) (cs : List Value) (y : DataW H × List MemPlace), DataW.trod enc P w base spare held fuel t cs = some y → ∃ x, k.K w x cs ∧ ok x
section
variable {P : Program} {t e : TypeId}
theorem opens_int {k : IntKind} (ht : P.underlying t = some (.int k)) : Opens P t (Kd.int k) (fun n => (Lit.int k n).wf = true) := by
  intro H enc w base spare held fuel cs y h
  obtain ⟨n, rfl, _, h2⟩ := DataW.trod_int ht h
  exact ⟨n, rfl, h2⟩
theorem opens_string (ht : P.underlying t = some .string) : Opens P t Kd.string (fun s => s.size ≤ maxLen) := by
  intro H enc w base spare held fuel cs y h
  obtain ⟨s, rfl, _, h2⟩ := DataW.trod_string ht h
  exact ⟨s, rfl, h2⟩
theorem opens_slice {α : Type} {k : Kd α} {ok : α → Prop} (ht : P.underlying t = some (.slice e)) (hc : P.cellsOf e = k.sz) (he : Opens P e k ok) : Opens P t (Kd.slice e k) (fun xs => ∀ x ∈ xs, ok x) := by
  intro H enc w base spare held fuel cs y h
  rcases DataW.trod_slice ht h with ⟨rfl, _⟩ | ⟨a, len, cap, elems, rest, n, _, rfl, _, hb, hl, hm, hlen, hel, _, _⟩
  · exact ⟨[], ⟨none, 0, rfl, Nat.le_refl _, Kd.C_nil _ _⟩, fun x hx => by simp at hx⟩
  · have key : ∀ i, i < len → ∃ x, (∃ c, c.length = k.sz ∧ k.K w x c ∧ ∀ j u, c[j]? = some u → w.cell? (a.add (i * k.sz + j)) = some u) ∧ ok x := by
      intro i hi
      have h1 := hel i hi
      have h2 : elems[i]? = some elems[i] := List.getElem?_eq_getElem (by omega)
      rw [h2] at h1
      obtain ⟨c, hcells, htrod⟩ := Option.bind_eq_some_iff.1 h1
      obtain ⟨x, hx, hok⟩ := he enc w base spare held n c _ htrod
      obtain ⟨_, hcl, hcc⟩ := World.cells?_some hcells
      refine ⟨x, ⟨c, by rw [hcl, hc], hx, fun j u hj => ?_⟩, hok⟩
      have hjl : j < P.cellsOf e := by rw [← hcl]; exact (List.getElem?_eq_some_iff.1 hj).1
      have h3 := hcc j hjl
      rw [hj, hc] at h3
      rw [← h3]
      congr 1
      exact (Go.Deep.add_add a (i * k.sz) j).symm
    obtain ⟨xs, hxl, hx⟩ := list_of len key
    refine ⟨xs, ⟨some a, cap, by rw [hxl], by rw [hxl]; exact hl, hxl ▸ rfl, by rw [hxl]; simp only [maxLen] at hm; omega, fun _ => ⟨a, rfl, fun j p hp => (hx j p hp).1⟩⟩, fun x hxm => ?_⟩
    obtain ⟨j, hj⟩ := List.mem_iff_getElem?.1 hxm
    exact (hx j x hj).2
end
end Go.Proofs.Ytmnidohgnnpeiaa.Gen
namespace Go.Proofs.Ytmnidohgnnpeiaa.Gen
open Go.RowKit Go.Proofs.YtmnidohgnnpeiaaW.PrintWords Go.Proofs.YtmnidohgnnpeiaaW.PrintLast Go.Proofs.YtmnidohgnnpeiaaW.PrintMore Go.Proofs.Ytmnidohgnnpeiaa.Prt
set_option linter.unusedVariables false
set_option linter.unusedSimpArgs false
theorem opens_str : Opens Try.prog 9 Kd.string (fun s => s.size ≤ maxLen) := opens_string Try.underlying9
theorem opens_i64 : Opens Try.prog 3 (Kd.int .i64) (fun n => (Lit.int .i64 n).wf = true) := opens_int Try.underlying3
theorem opens_strs : Opens Try.prog 23 (Kd.slice 9 Kd.string) (fun xs => ∀ x ∈ xs, x.size ≤ maxLen) := opens_slice Try.underlying23 (by kernel_rfl) opens_str
theorem opens_field : Opens Try.prog 35 k35 (fun x => x.f0.size ≤ maxLen ∧ (Lit.int .i64 x.f1).wf = true) := by
  intro H enc w base spare held fuel cs y h
  obtain ⟨xs, n, _, _, hl, hlen, hf⟩ := DataW.trod_struct Try.underlying35 h
  rw [show Try.prog.cellsOf 35 = 2 from by kernel_rfl] at hl
  have hlen' : xs.length = 2 := hlen
  have h0 := hf 0 _ rfl
  rw [List.getElem?_eq_getElem (l := xs) (i := 0) (by omega)] at h0
  replace h0 : DataW.trod enc Try.prog w base spare held n 9 ((cs.drop 0).take (Try.prog.cellsOf 9)) = some xs[0] := h0
  rw [show Try.prog.cellsOf 9 = 1 from by kernel_rfl] at h0
  obtain ⟨x0, K0, o0⟩ := opens_str enc w base spare held n _ _ h0
  have h1 := hf 1 _ rfl
  rw [List.getElem?_eq_getElem (l := xs) (i := 1) (by omega)] at h1
  replace h1 : DataW.trod enc Try.prog w base spare held n 3 ((cs.drop 1).take (Try.prog.cellsOf 3)) = some xs[1] := h1
  rw [show Try.prog.cellsOf 3 = 1 from by kernel_rfl] at h1
  obtain ⟨x1, K1, o1⟩ := opens_i64 enc w base spare held n _ _ h1
  have e : cs = (cs.drop 0).take 1 ++ ((cs.drop 1).take 1) := by
    have g0 : cs.drop 0 = (cs.drop 0).take 1 ++ cs.drop 1 := by rw [show cs.drop 1 = (cs.drop 0).drop 1 from by rw [List.drop_drop], List.take_append_drop]
    have g1 : cs.drop 1 = (cs.drop 1).take 1 ++ cs.drop 2 := by rw [show cs.drop 2 = (cs.drop 1).drop 1 from by rw [List.drop_drop], List.take_append_drop]
    have z : cs.drop 2 = [] := List.drop_eq_nil_of_le (by omega)
    rw [z, List.append_nil] at g1
    calc cs = cs.drop 0 := rfl
      _ = (cs.drop 0).take 1 ++ ((cs.drop 1).take 1) := by rw [← g1]; exact g0
  refine ⟨⟨x0, x1⟩, ?_, o0, o1⟩
  rw [e]
  exact ⟨_, _, rfl, K0, K1⟩
theorem opens_fields : Opens Try.prog 24 (Kd.slice 35 k35) (fun xs => ∀ x ∈ xs, x.f0.size ≤ maxLen ∧ (Lit.int .i64 x.f1).wf = true) := opens_slice Try.underlying24 (by kernel_rfl) opens_field
theorem opens_event : Opens Try.prog 26 k26 (fun x => x.f0.size ≤ maxLen ∧ x.f1.size ≤ maxLen ∧ (∀ z ∈ x.f2, z.size ≤ maxLen) ∧ (∀ z ∈ x.f3, z.f0.size ≤ maxLen ∧ (Lit.int .i64 z.f1).wf = true)) := by
  intro H enc w base spare held fuel cs y h
  obtain ⟨xs, n, _, _, hl, hlen, hf⟩ := DataW.trod_struct Try.underlying26 h
  rw [show Try.prog.cellsOf 26 = 4 from by kernel_rfl] at hl
  have hlen' : xs.length = 4 := hlen
  have h0 := hf 0 _ rfl
  rw [List.getElem?_eq_getElem (l := xs) (i := 0) (by omega)] at h0
  replace h0 : DataW.trod enc Try.prog w base spare held n 9 ((cs.drop 0).take (Try.prog.cellsOf 9)) = some xs[0] := h0
  rw [show Try.prog.cellsOf 9 = 1 from by kernel_rfl] at h0
  obtain ⟨x0, K0, o0⟩ := opens_str enc w base spare held n _ _ h0
  have h1 := hf 1 _ rfl
  rw [List.getElem?_eq_getElem (l := xs) (i := 1) (by omega)] at h1
  replace h1 : DataW.trod enc Try.prog w base spare held n 9 ((cs.drop 1).take (Try.prog.cellsOf 9)) = some xs[1] := h1
  rw [show Try.prog.cellsOf 9 = 1 from by kernel_rfl] at h1
  obtain ⟨x1, K1, o1⟩ := opens_str enc w base spare held n _ _ h1
  have h2 := hf 2 _ rfl
  rw [List.getElem?_eq_getElem (l := xs) (i := 2) (by omega)] at h2
  replace h2 : DataW.trod enc Try.prog w base spare held n 23 ((cs.drop 2).take (Try.prog.cellsOf 23)) = some xs[2] := h2
  rw [show Try.prog.cellsOf 23 = 1 from by kernel_rfl] at h2
  obtain ⟨x2, K2, o2⟩ := opens_strs enc w base spare held n _ _ h2
  have h3 := hf 3 _ rfl
  rw [List.getElem?_eq_getElem (l := xs) (i := 3) (by omega)] at h3
  replace h3 : DataW.trod enc Try.prog w base spare held n 24 ((cs.drop 3).take (Try.prog.cellsOf 24)) = some xs[3] := h3
  rw [show Try.prog.cellsOf 24 = 1 from by kernel_rfl] at h3
  obtain ⟨x3, K3, o3⟩ := opens_fields enc w base spare held n _ _ h3
  have e : cs = (cs.drop 0).take 1 ++ ((cs.drop 1).take 1 ++ ((cs.drop 2).take 1 ++ ((cs.drop 3).take 1))) := by
    have g0 : cs.drop 0 = (cs.drop 0).take 1 ++ cs.drop 1 := by rw [show cs.drop 1 = (cs.drop 0).drop 1 from by rw [List.drop_drop], List.take_append_drop]
    have g1 : cs.drop 1 = (cs.drop 1).take 1 ++ cs.drop 2 := by rw [show cs.drop 2 = (cs.drop 1).drop 1 from by rw [List.drop_drop], List.take_append_drop]
    have g2 : cs.drop 2 = (cs.drop 2).take 1 ++ cs.drop 3 := by rw [show cs.drop 3 = (cs.drop 2).drop 1 from by rw [List.drop_drop], List.take_append_drop]
    have g3 : cs.drop 3 = (cs.drop 3).take 1 ++ cs.drop 4 := by rw [show cs.drop 4 = (cs.drop 3).drop 1 from by rw [List.drop_drop], List.take_append_drop]
    have z : cs.drop 4 = [] := List.drop_eq_nil_of_le (by omega)
    rw [z, List.append_nil] at g3
    calc cs = cs.drop 0 := rfl
      _ = (cs.drop 0).take 1 ++ ((cs.drop 1).take 1 ++ ((cs.drop 2).take 1 ++ ((cs.drop 3).take 1))) := by rw [← g3, ← g2, ← g1]; exact g0
  refine ⟨⟨x0, x1, x2, x3⟩, ?_, o0, o1, o2, o3⟩
  rw [e]
  exact ⟨_, _, rfl, K0, ⟨_, _, rfl, K1, ⟨_, _, rfl, K2, K3⟩⟩⟩
end Go.Proofs.Ytmnidohgnnpeiaa.Gen
namespace Go.Proofs.Ytmnidohgnnpeiaa.Gen
open Go.RowKit Go.Proofs.YtmnidohgnnpeiaaW.PrintWords Go.Proofs.YtmnidohgnnpeiaaW.PrintLast Go.Proofs.YtmnidohgnnpeiaaW.PrintMore Go.Proofs.Ytmnidohgnnpeiaa.Prt
set_option linter.unusedVariables false
set_option linter.unusedSimpArgs false
theorem opens_events : Opens Try.prog 46 (Kd.slice 26 k26) (fun xs => ∀ x ∈ xs, x.f0.size ≤ maxLen ∧ x.f1.size ≤ maxLen ∧ (∀ z ∈ x.f2, z.size ≤ maxLen) ∧ (∀ z ∈ x.f3, z.f0.size ≤ maxLen ∧ (Lit.int .i64 z.f1).wf = true)) := opens_slice Try.underlying46 (by kernel_rfl) opens_event
end Go.Proofs.Ytmnidohgnnpeiaa.Gen
namespace Go.Proofs.Ytmnidohgnnpeiaa.Prt
open Go.RowKit Go.Proofs.YtmnidohgnnpeiaaW.PrintWords Go.Proofs.YtmnidohgnnpeiaaW.PrintLast Go.Proofs.YtmnidohgnnpeiaaW.PrintMore Go.Proofs.Ytmnidohgnnpeiaa.Num Go.Proofs.Ytmnidohgnnpeiaa.Nam Go.Proofs.Ytmnidohgnnpeiaa.Gen
set_option linter.unusedVariables false
set_option linter.unusedSimpArgs false

theorem evcodeBack_law (vs : Value) (xs : List S26) (a : Int) (w : World) (y : (Kd.slice 26 k26).K w xs [vs]) (hx : ∀ x ∈ xs, x.f0.size ≤ maxLen ∧ x.f1.size ≤ maxLen ∧ (∀ z ∈ x.f2, z.size ≤ maxLen) ∧ (∀ z ∈ x.f3, z.f0.size ≤ maxLen ∧ (Lit.int .i64 z.f1).wf = true)) (wa : (Lit.int .i64 a).wf = true) :
    Calls Try.prog 7 #[vs, .int .i64 a] w fun e w' => e = .returned (.bool true) ∧ Below w.heap.size w w' := by
  obtain ⟨A, c, e, hc, hC⟩ := y
  obtain rfl : vs = .slice A xs.length c := by simpa using e
  have hf : ∀ x ∈ xs, Fits x.f0 x.f1 x.f2 x.f3 := fun x h => ⟨(hx x h).1, (hx x h).2.1, (hx x h).2.2.1, fun z hz => ((hx x h).2.2.2 z hz).1⟩
  exact registrarlaw05_EvcodeBack.calls 60 A c xs a true w hC hc (evcodeBack_true xs a hf)
end Go.Proofs.Ytmnidohgnnpeiaa.Prt

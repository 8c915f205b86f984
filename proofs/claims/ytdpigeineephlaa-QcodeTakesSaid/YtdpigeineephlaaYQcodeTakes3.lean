/- Functions of the program, told as plain functions, with their walks: written by a program of this claim's out of the translation. The reference's tags, in closed form. The reference's rows of texts: they rise, they are the same: in closed form. What readers take, in plain words; rows beside a reader. qcode.list over texts: its walk. qcode.list over clauses: its walk. Queries as bytes: the walks of qcode.put and its closure. The contracts of name.May and name.MayTag, in the form that the printed functions ask. Whether texts rise: the walk of query.rise (IsSorted, Clone, Compact). Whether texts rise: the walk of query.rise. What is wrong with a query: the walk of query.May. What is wrong with a projection: in closed form. qcode.list over projections: its walk. Queries and projections that may be; their bytes. -/
import Derived.Shelf.Abstract
import Derived.Test.YtdpigeineephlaaShelf
import Derived.Lib.LazyBuf
import Derived.Test.YtdpigeineephlaaYQcodeTakes1
import Derived.Test.YtdpigeineephlaaYQcodeTakes2
namespace Go.Proofs.Ytdpigeineephlaa.Prt
open Go.RowKit Go.Proofs.YtdpigeineephlaaW.PrintWords Go.Proofs.YtdpigeineephlaaW.PrintLast Go.Proofs.YtdpigeineephlaaW.PrintMore
attribute [local go_sem] max2_int min2_int max_two min_two max_three min_three max_four min_four   -- for this text's walks alone
set_option linter.unusedVariables false
set_option linter.unusedSimpArgs false

def registrarref03_Parts.l0 : Nat → ByteArray → Int → Option (ByteArray × ByteArray × Bool)
  | 0, _, _ => none
  | k + 1, x0, x5 => if x5 < (x0.size : Int) then (if 0 ≤ x5 then (if (bt x0 x5) = 58 then (if x5 ≤ (x0.size : Int) then ((registrarref03_MayG.f (x0.extract 0 (x5 : Int).toNat)).bind fun t176 => (if 0 ≤ (wrap64 (x5 + 1)) then (if (wrap64 (x5 + 1)) ≤ (x0.size : Int) then ((registrarref03_MayG.f (x0.extract ((wrap64 (x5 + 1)) : Int).toNat x0.size)).bind fun t177 => (if t176 = true then (if t177 = true then (some (x0.extract 0 (x5 : Int).toNat, x0.extract ((wrap64 (x5 + 1)) : Int).toNat x0.size, true)) else (some ((⟨#[]⟩ : ByteArray), (⟨#[]⟩ : ByteArray), false))) else (some ((⟨#[]⟩ : ByteArray), (⟨#[]⟩ : ByteArray), false)))) else (none)) else (none))) else (none)) else (registrarref03_Parts.l0 k x0 (wrap64 (x5 + 1)))) else (none)) else (some ((⟨#[]⟩ : ByteArray), (⟨#[]⟩ : ByteArray), false))
def registrarref03_Parts.f (k : Nat) (a0 : ByteArray) : Option (ByteArray × ByteArray × Bool) := registrarref03_Parts.l0 k a0 0
set_option maxHeartbeats 8000000 in
set_option maxRecDepth 100000 in
theorem registrarref03_Parts.calls (k : Nat) (a0 : ByteArray) (r1 : ByteArray) (r2 : ByteArray) (r3 : Bool) (w : World) (h : registrarref03_Parts.f k a0 = some (r1, r2, r3)) :
    Calls Try.prog 63 #[.string a0] w fun e w' => e = .returned (.tuple #[.string r1, .string r2, .bool r3]) ∧ Below w.heap.size w w' := by
  have HB := Aside0.mk (Below.refl w.heap.size w)
  have H : (registrarref03_Parts.l0 k a0 0) = some (r1, r2, r3) := h
  clear h
  have H' := Aside0.mk H
  clear H
  go_enter Try.func63, Try.ntmps63
  go_wp2
  repeat (go_quiet (fail); try go_wp2)
  go_loopg [5] k (fun kq v5 w' => ∃ (x5_1 : Int), v5 = .int .i64 x5_1 ∧ Aside0 (registrarref03_Parts.l0 kq a0 x5_1 = some (r1, r2, r3)) ∧ Aside0 (kq ≤ k) ∧ Aside0 (Below w.heap.size w w'))
  case atStart => exact ⟨(0), (by first | rfl | (simp; done) | (simp [*]; done)), H', ⟨Nat.le_refl _⟩, ⟨by repeat (first | (with_reducible first | exact HB.out | apply below_alloc | apply pw_below_drewN | apply below_drew1) | exact HB.out)⟩⟩
  case round =>
    clear H'
    obtain ⟨x5_1, rfl, HA, HK1, HB⟩ := hrel
    cases gk with
    | zero => exact absurd HA.out (by simp [registrarref03_Parts.l0])
    | succ k1 =>
      have H := HA.out
      clear HA
      simp only [registrarref03_Parts.l0] at H
      by_cases c2 : x5_1 < (a0.size : Int)
      · rw [if_pos c2] at H
        have c2b0 : decide (x5_1 < (a0.size : Int)) = true := decide_eq_true c2
        clear c2
        by_cases c3 : 0 ≤ x5_1
        · rw [if_pos c3] at H
          have c3b0 : decide (0 ≤ x5_1) = true := decide_eq_true c3
          clear c3
          by_cases c5 : (bt a0 x5_1) = 58
          · rw [if_pos c5] at H
            have c5b0 : ((bt a0 x5_1) == 58) = true := beq_iff_eq.mpr c5
            have c5b1 : ((bt a0 x5_1) != 58) = false := bne_eq_false_iff_eq.mpr c5
            clear c5
            have c6b0 := eq_true (of_decide_eq_true (by first | (with_reducible assumption) | assumption) : 0 ≤ x5_1)
            by_cases c7 : x5_1 ≤ (a0.size : Int)
            · rw [if_pos c7] at H
              have c7b0 := eq_true c7
              have c7b1 : decide (x5_1 ≤ (a0.size : Int)) = true := decide_eq_true c7
              clear c7
              replace H := Option.bind_eq_some_iff.mp H
              obtain ⟨t176, A80, H⟩ := H
              replace H : (if 0 ≤ (wrap64 (x5_1 + 1)) then (if (wrap64 (x5_1 + 1)) ≤ (a0.size : Int) then ((registrarref03_MayG.f (a0.extract ((wrap64 (x5_1 + 1)) : Int).toNat a0.size)).bind fun t177 => (if t176 = true then (if t177 = true then (some (a0.extract 0 (x5_1 : Int).toNat, a0.extract ((wrap64 (x5_1 + 1)) : Int).toNat a0.size, true)) else (some ((⟨#[]⟩ : ByteArray), (⟨#[]⟩ : ByteArray), false))) else (some ((⟨#[]⟩ : ByteArray), (⟨#[]⟩ : ByteArray), false)))) else (none)) else (none)) = some (r1, r2, r3) := H
              have A8 := Aside0.mk A80
              clear A80
              obtain ⟨ji9, hji9⟩ : ∃ j_ : Int, (wrap64 (x5_1 + 1)) = j_ := ⟨_, rfl⟩
              replace H : (if 0 ≤ (ji9) then (if (ji9) ≤ (a0.size : Int) then ((registrarref03_MayG.f (a0.extract ((ji9) : Int).toNat a0.size)).bind fun t177 => (if t176 = true then (if t177 = true then (some (a0.extract 0 (x5_1 : Int).toNat, a0.extract ((ji9) : Int).toNat a0.size, true)) else (some ((⟨#[]⟩ : ByteArray), (⟨#[]⟩ : ByteArray), false))) else (some ((⟨#[]⟩ : ByteArray), (⟨#[]⟩ : ByteArray), false)))) else (none)) else (none)) = some (r1, r2, r3) := by first | (rw [hji9] at H; exact H) | (simp only [hji9] at H ⊢; exact H)
              (try rw [hji9] at A8)
              have hji9w : (IntKind.i64.wrap (x5_1 + 1)) = ji9 := (i64_w _).trans hji9
              by_cases c10 : 0 ≤ (ji9)
              · rw [if_pos c10] at H
                have c10b0 := eq_true c10
                have c10b1 : decide (0 ≤ (ji9)) = true := decide_eq_true c10
                clear c10
                by_cases c11 : (ji9) ≤ (a0.size : Int)
                · rw [if_pos c11] at H
                  have c11b0 := eq_true c11
                  have c11b1 : decide ((ji9) ≤ (a0.size : Int)) = true := decide_eq_true c11
                  clear c11
                  replace H := Option.bind_eq_some_iff.mp H
                  obtain ⟨t177, A120, H⟩ := H
                  replace H : (if t176 = true then (if t177 = true then (some (a0.extract 0 (x5_1 : Int).toNat, a0.extract ((ji9) : Int).toNat a0.size, true)) else (some ((⟨#[]⟩ : ByteArray), (⟨#[]⟩ : ByteArray), false))) else (some ((⟨#[]⟩ : ByteArray), (⟨#[]⟩ : ByteArray), false))) = some (r1, r2, r3) := H
                  have A12 := Aside0.mk A120
                  clear A120
                  by_cases c13 : t176 = true
                  · subst c13
                    have H1 : (if t177 = true then (some (a0.extract 0 (x5_1 : Int).toNat, a0.extract ((ji9) : Int).toNat a0.size, true)) else (some ((⟨#[]⟩ : ByteArray), (⟨#[]⟩ : ByteArray), false))) = some (r1, r2, r3) := by rw [if_pos rfl] at H; exact H
                    clear H
                    have H := H1
                    clear H1
                    by_cases c14 : t177 = true
                    · subst c14
                      have H1 : (some (a0.extract 0 (x5_1 : Int).toNat, a0.extract ((ji9) : Int).toNat a0.size, true)) = some (r1, r2, r3) := by rw [if_pos rfl] at H; exact H
                      clear H
                      have H := H1
                      clear H1
                      have c15b0 := eq_true (of_decide_eq_true (by first | (with_reducible assumption) | assumption) : 0 ≤ x5_1)
                      have c16b0 := eq_true (of_decide_eq_true (by first | (with_reducible assumption) | assumption) : x5_1 ≤ (a0.size : Int))
                      have c17b0 := eq_true (of_decide_eq_true (by first | (with_reducible assumption) | assumption) : 0 ≤ (ji9))
                      have c18b0 := eq_true (of_decide_eq_true (by first | (with_reducible assumption) | assumption) : (ji9) ≤ (a0.size : Int))
                      simp only [Option.some.injEq, Prod.mk.injEq] at H
                      obtain ⟨rfl, rfl, rfl⟩ := H
                      have p4 : 0 ≤ (x5_1 : Int) := of_decide_eq_true (by first | (with_reducible assumption) | assumption)
                      have q4 : x5_1 < (a0.size : Int) := of_decide_eq_true (by first | (with_reducible assumption) | assumption)
                      have hx4 := bt_at a0 x5_1
                      replace p4 := eq_true p4
                      replace q4 := eq_true q4
                      go_wp2_with (first | (go_at_call 37; (with_reducible refine (registrarref03_MayG.calls (a0.extract 0 (x5_1 : Int).toNat) true _ A8.out).mono ?_); rintro e w19 ⟨rfl, hb⟩; have n0_ := Aside0.mk (below_step (by repeat (first | (with_reducible first | exact HB.out | apply below_alloc | apply pw_below_drewN | apply below_drew1) | exact HB.out)) hb); clear HB; have HB := n0_; clear n0_; (try clear hb); (try clear hb2); (try clear hk); (try clear hi)) | (go_at_call 37; (with_reducible refine (registrarref03_MayG.calls (a0.extract ((ji9) : Int).toNat a0.size) true _ A12.out).mono ?_); rintro e w20 ⟨rfl, hb⟩; have n0_ := Aside0.mk (below_step (by repeat (first | (with_reducible first | exact HB.out | apply below_alloc | apply pw_below_drewN | apply below_drew1) | exact HB.out)) hb); clear HB; have HB := n0_; clear n0_; (try clear hb); (try clear hb2); (try clear hk); (try clear hi)))
                      repeat (go_quiet (first | (go_at_call 37; (with_reducible refine (registrarref03_MayG.calls (a0.extract 0 (x5_1 : Int).toNat) true _ A8.out).mono ?_); rintro e w19 ⟨rfl, hb⟩; have n0_ := Aside0.mk (below_step (by repeat (first | (with_reducible first | exact HB.out | apply below_alloc | apply pw_below_drewN | apply below_drew1) | exact HB.out)) hb); clear HB; have HB := n0_; clear n0_; (try clear hb); (try clear hb2); (try clear hk); (try clear hi)) | (go_at_call 37; (with_reducible refine (registrarref03_MayG.calls (a0.extract ((ji9) : Int).toNat a0.size) true _ A12.out).mono ?_); rintro e w20 ⟨rfl, hb⟩; have n0_ := Aside0.mk (below_step (by repeat (first | (with_reducible first | exact HB.out | apply below_alloc | apply pw_below_drewN | apply below_drew1) | exact HB.out)) hb); clear HB; have HB := n0_; clear n0_; (try clear hb); (try clear hb2); (try clear hk); (try clear hi))); try go_wp2_with (first | (go_at_call 37; (with_reducible refine (registrarref03_MayG.calls (a0.extract 0 (x5_1 : Int).toNat) true _ A8.out).mono ?_); rintro e w19 ⟨rfl, hb⟩; have n0_ := Aside0.mk (below_step (by repeat (first | (with_reducible first | exact HB.out | apply below_alloc | apply pw_below_drewN | apply below_drew1) | exact HB.out)) hb); clear HB; have HB := n0_; clear n0_; (try clear hb); (try clear hb2); (try clear hk); (try clear hi)) | (go_at_call 37; (with_reducible refine (registrarref03_MayG.calls (a0.extract ((ji9) : Int).toNat a0.size) true _ A12.out).mono ?_); rintro e w20 ⟨rfl, hb⟩; have n0_ := Aside0.mk (below_step (by repeat (first | (with_reducible first | exact HB.out | apply below_alloc | apply pw_below_drewN | apply below_drew1) | exact HB.out)) hb); clear HB; have HB := n0_; clear n0_; (try clear hb); (try clear hb2); (try clear hk); (try clear hi))))
                      go_ret3
                      exact ⟨by first | rfl | (simp [errW_none, errW_some] <;> rfl) | (simp only [← hji9]; first | rfl | (simp [errW_none, errW_some] <;> rfl)) | (simp [*, errW_none, errW_some] <;> rfl), by repeat (first | (with_reducible first | exact HB.out | apply below_alloc | apply pw_below_drewN | apply below_drew1) | exact HB.out)⟩
                    · replace c14 := Bool.eq_false_iff.mpr c14
                      subst c14
                      have H1 : (some ((⟨#[]⟩ : ByteArray), (⟨#[]⟩ : ByteArray), false)) = some (r1, r2, r3) := by rw [if_neg (show ¬ (false = true) by decide)] at H; exact H
                      clear H
                      have H := H1
                      clear H1
                      simp only [Option.some.injEq, Prod.mk.injEq] at H
                      obtain ⟨rfl, rfl, rfl⟩ := H
                      have p4 : 0 ≤ (x5_1 : Int) := of_decide_eq_true (by first | (with_reducible assumption) | assumption)
                      have q4 : x5_1 < (a0.size : Int) := of_decide_eq_true (by first | (with_reducible assumption) | assumption)
                      have hx4 := bt_at a0 x5_1
                      replace p4 := eq_true p4
                      replace q4 := eq_true q4
                      go_wp2_with (first | (go_at_call 37; (with_reducible refine (registrarref03_MayG.calls (a0.extract 0 (x5_1 : Int).toNat) true _ A8.out).mono ?_); rintro e w21 ⟨rfl, hb⟩; have n0_ := Aside0.mk (below_step (by repeat (first | (with_reducible first | exact HB.out | apply below_alloc | apply pw_below_drewN | apply below_drew1) | exact HB.out)) hb); clear HB; have HB := n0_; clear n0_; (try clear hb); (try clear hb2); (try clear hk); (try clear hi)) | (go_at_call 37; (with_reducible refine (registrarref03_MayG.calls (a0.extract ((ji9) : Int).toNat a0.size) false _ A12.out).mono ?_); rintro e w22 ⟨rfl, hb⟩; have n0_ := Aside0.mk (below_step (by repeat (first | (with_reducible first | exact HB.out | apply below_alloc | apply pw_below_drewN | apply below_drew1) | exact HB.out)) hb); clear HB; have HB := n0_; clear n0_; (try clear hb); (try clear hb2); (try clear hk); (try clear hi)))
                      repeat (go_quiet (first | (go_at_call 37; (with_reducible refine (registrarref03_MayG.calls (a0.extract 0 (x5_1 : Int).toNat) true _ A8.out).mono ?_); rintro e w21 ⟨rfl, hb⟩; have n0_ := Aside0.mk (below_step (by repeat (first | (with_reducible first | exact HB.out | apply below_alloc | apply pw_below_drewN | apply below_drew1) | exact HB.out)) hb); clear HB; have HB := n0_; clear n0_; (try clear hb); (try clear hb2); (try clear hk); (try clear hi)) | (go_at_call 37; (with_reducible refine (registrarref03_MayG.calls (a0.extract ((ji9) : Int).toNat a0.size) false _ A12.out).mono ?_); rintro e w22 ⟨rfl, hb⟩; have n0_ := Aside0.mk (below_step (by repeat (first | (with_reducible first | exact HB.out | apply below_alloc | apply pw_below_drewN | apply below_drew1) | exact HB.out)) hb); clear HB; have HB := n0_; clear n0_; (try clear hb); (try clear hb2); (try clear hk); (try clear hi))); try go_wp2_with (first | (go_at_call 37; (with_reducible refine (registrarref03_MayG.calls (a0.extract 0 (x5_1 : Int).toNat) true _ A8.out).mono ?_); rintro e w21 ⟨rfl, hb⟩; have n0_ := Aside0.mk (below_step (by repeat (first | (with_reducible first | exact HB.out | apply below_alloc | apply pw_below_drewN | apply below_drew1) | exact HB.out)) hb); clear HB; have HB := n0_; clear n0_; (try clear hb); (try clear hb2); (try clear hk); (try clear hi)) | (go_at_call 37; (with_reducible refine (registrarref03_MayG.calls (a0.extract ((ji9) : Int).toNat a0.size) false _ A12.out).mono ?_); rintro e w22 ⟨rfl, hb⟩; have n0_ := Aside0.mk (below_step (by repeat (first | (with_reducible first | exact HB.out | apply below_alloc | apply pw_below_drewN | apply below_drew1) | exact HB.out)) hb); clear HB; have HB := n0_; clear n0_; (try clear hb); (try clear hb2); (try clear hk); (try clear hi))))
                      go_ret3
                      exact ⟨by first | rfl | (simp [errW_none, errW_some] <;> rfl) | (simp only [← hji9]; first | rfl | (simp [errW_none, errW_some] <;> rfl)) | (simp [*, errW_none, errW_some] <;> rfl), by repeat (first | (with_reducible first | exact HB.out | apply below_alloc | apply pw_below_drewN | apply below_drew1) | exact HB.out)⟩
                  · replace c13 := Bool.eq_false_iff.mpr c13
                    subst c13
                    have H1 : (some ((⟨#[]⟩ : ByteArray), (⟨#[]⟩ : ByteArray), false)) = some (r1, r2, r3) := by rw [if_neg (show ¬ (false = true) by decide)] at H; exact H
                    clear H
                    have H := H1
                    clear H1
                    simp only [Option.some.injEq, Prod.mk.injEq] at H
                    obtain ⟨rfl, rfl, rfl⟩ := H
                    have p4 : 0 ≤ (x5_1 : Int) := of_decide_eq_true (by first | (with_reducible assumption) | assumption)
                    have q4 : x5_1 < (a0.size : Int) := of_decide_eq_true (by first | (with_reducible assumption) | assumption)
                    have hx4 := bt_at a0 x5_1
                    replace p4 := eq_true p4
                    replace q4 := eq_true q4
                    go_wp2_with (first | (go_at_call 37; (with_reducible refine (registrarref03_MayG.calls (a0.extract 0 (x5_1 : Int).toNat) false _ A8.out).mono ?_); rintro e w23 ⟨rfl, hb⟩; have n0_ := Aside0.mk (below_step (by repeat (first | (with_reducible first | exact HB.out | apply below_alloc | apply pw_below_drewN | apply below_drew1) | exact HB.out)) hb); clear HB; have HB := n0_; clear n0_; (try clear hb); (try clear hb2); (try clear hk); (try clear hi)) | (go_at_call 37; (with_reducible refine (registrarref03_MayG.calls (a0.extract ((ji9) : Int).toNat a0.size) t177 _ A12.out).mono ?_); rintro e w24 ⟨rfl, hb⟩; have n0_ := Aside0.mk (below_step (by repeat (first | (with_reducible first | exact HB.out | apply below_alloc | apply pw_below_drewN | apply below_drew1) | exact HB.out)) hb); clear HB; have HB := n0_; clear n0_; (try clear hb); (try clear hb2); (try clear hk); (try clear hi)))
                    repeat (go_quiet (first | (go_at_call 37; (with_reducible refine (registrarref03_MayG.calls (a0.extract 0 (x5_1 : Int).toNat) false _ A8.out).mono ?_); rintro e w23 ⟨rfl, hb⟩; have n0_ := Aside0.mk (below_step (by repeat (first | (with_reducible first | exact HB.out | apply below_alloc | apply pw_below_drewN | apply below_drew1) | exact HB.out)) hb); clear HB; have HB := n0_; clear n0_; (try clear hb); (try clear hb2); (try clear hk); (try clear hi)) | (go_at_call 37; (with_reducible refine (registrarref03_MayG.calls (a0.extract ((ji9) : Int).toNat a0.size) t177 _ A12.out).mono ?_); rintro e w24 ⟨rfl, hb⟩; have n0_ := Aside0.mk (below_step (by repeat (first | (with_reducible first | exact HB.out | apply below_alloc | apply pw_below_drewN | apply below_drew1) | exact HB.out)) hb); clear HB; have HB := n0_; clear n0_; (try clear hb); (try clear hb2); (try clear hk); (try clear hi))); try go_wp2_with (first | (go_at_call 37; (with_reducible refine (registrarref03_MayG.calls (a0.extract 0 (x5_1 : Int).toNat) false _ A8.out).mono ?_); rintro e w23 ⟨rfl, hb⟩; have n0_ := Aside0.mk (below_step (by repeat (first | (with_reducible first | exact HB.out | apply below_alloc | apply pw_below_drewN | apply below_drew1) | exact HB.out)) hb); clear HB; have HB := n0_; clear n0_; (try clear hb); (try clear hb2); (try clear hk); (try clear hi)) | (go_at_call 37; (with_reducible refine (registrarref03_MayG.calls (a0.extract ((ji9) : Int).toNat a0.size) t177 _ A12.out).mono ?_); rintro e w24 ⟨rfl, hb⟩; have n0_ := Aside0.mk (below_step (by repeat (first | (with_reducible first | exact HB.out | apply below_alloc | apply pw_below_drewN | apply below_drew1) | exact HB.out)) hb); clear HB; have HB := n0_; clear n0_; (try clear hb); (try clear hb2); (try clear hk); (try clear hi))))
                    go_ret3
                    exact ⟨by first | rfl | (simp [errW_none, errW_some] <;> rfl) | (simp only [← hji9]; first | rfl | (simp [errW_none, errW_some] <;> rfl)) | (simp [*, errW_none, errW_some] <;> rfl), by repeat (first | (with_reducible first | exact HB.out | apply below_alloc | apply pw_below_drewN | apply below_drew1) | exact HB.out)⟩
                · rw [if_neg c11] at H
                  exact absurd H (by simp)
              · rw [if_neg c10] at H
                exact absurd H (by simp)
            · rw [if_neg c7] at H
              exact absurd H (by simp)
          · rw [if_neg c5] at H
            have c5b0 : ((bt a0 x5_1) == 58) = false := beq_eq_false_iff_ne.mpr c5
            have c5b1 : ((bt a0 x5_1) != 58) = true := bne_iff_ne.mpr c5
            have H' := Aside0.mk H
            clear H
            have p4 : 0 ≤ (x5_1 : Int) := of_decide_eq_true (by first | (with_reducible assumption) | assumption)
            have q4 : x5_1 < (a0.size : Int) := of_decide_eq_true (by first | (with_reducible assumption) | assumption)
            have hx4 := bt_at a0 x5_1
            replace p4 := eq_true p4
            replace q4 := eq_true q4
            go_wp2
            repeat (go_quiet (fail); try go_wp2)
            go_roundg k1
            case measure => have := HK1.out; omega
            case rel => exact ⟨(wrap64 (x5_1 + 1)), (by first | rfl | (simp; done) | (simp [*]; done)), H', ⟨by have := HK1.out; omega⟩, ⟨by repeat (first | (with_reducible first | exact HB.out | apply below_alloc | apply pw_below_drewN | apply below_drew1) | exact HB.out)⟩⟩
        · rw [if_neg c3] at H
          exact absurd H (by simp)
      · rw [if_neg c2] at H
        have c2b0 : decide (x5_1 < (a0.size : Int)) = false := decide_eq_false c2
        clear c2
        simp only [Option.some.injEq, Prod.mk.injEq] at H
        obtain ⟨rfl, rfl, rfl⟩ := H
        go_wp2
        repeat (go_quiet (fail); try go_wp2)
        go_ret3
        exact ⟨by first | rfl | (simp [errW_none, errW_some] <;> rfl) | (simp [*, errW_none, errW_some] <;> rfl), by repeat (first | (with_reducible first | exact HB.out | apply below_alloc | apply pw_below_drewN | apply below_drew1) | exact HB.out)⟩

end Go.Proofs.Ytdpigeineephlaa.Prt
namespace Go.Proofs.Ytdpigeineephlaa.Prt
open Go.RowKit Go.Proofs.YtdpigeineephlaaW.PrintWords Go.Proofs.YtdpigeineephlaaW.PrintLast Go.Proofs.YtdpigeineephlaaW.PrintMore Go.Proofs.Ytdpigeineephlaa.Num Go.Proofs.Ytdpigeineephlaa.Nam
set_option linter.unusedVariables false
set_option linter.unusedSimpArgs false

/-- Where the first colon is. -/
def colon (s : ByteArray) : Nat := ((bytesOf s).takeWhile fun c => c != 58).length
def partsS (s : ByteArray) : ByteArray × ByteArray × Bool := if tagB s = true then (s.extract 0 (colon s), s.extract (colon s + 1) s.size, true) else ((⟨#[]⟩ : ByteArray), (⟨#[]⟩ : ByteArray), false)
theorem parts_none {s : ByteArray} (h : (58 : Int) ∉ bytesOf s) : partsS s = ((⟨#[]⟩ : ByteArray), (⟨#[]⟩ : ByteArray), false) := by
  unfold partsS
  rw [if_neg (by unfold tagB; rw [tagL_no _ h]; decide)]
theorem split_at (s : ByteArray) (i : Nat) (hi : i < s.size) (h : (bytesOf s).getD i 0 = 58) : bytesOf s = (bytesOf s).take i ++ 58 :: (bytesOf s).drop (i + 1) := by
  have := drop_cons (bytesOf s) i (by rw [bytes_length]; exact hi)
  rw [h] at this
  rw [← this, List.take_append_drop]
theorem ext0 (s : ByteArray) (i : Nat) : bytesOf (s.extract 0 i) = (bytesOf s).take i := by rw [bytes_extract, List.drop_zero, Nat.sub_zero]
theorem ext1 (s : ByteArray) (i : Nat) : bytesOf (s.extract i s.size) = (bytesOf s).drop i := by
  rw [bytes_extract, List.take_of_length_le (by rw [List.length_drop, bytes_length]; omega)]
theorem ext_le (s : ByteArray) (i j : Nat) : (s.extract i j).size ≤ s.size := by rw [ByteArray.size_extract]; omega
theorem parts_loop (s : ByteArray) (hs : s.size ≤ 9223372036854775807) : ∀ (n i k : Nat), i + n = s.size → (58 : Int) ∉ (bytesOf s).take i → n < k → registrarref03_Parts.l0 k s (i : Int) = some (partsS s) := by
  intro n
  induction n with
  | zero =>
    intro i k hi h58 hk
    obtain ⟨k, rfl⟩ : ∃ m, k = m + 1 := ⟨k - 1, by omega⟩
    rw [List.take_of_length_le (by rw [bytes_length]; omega)] at h58
    rw [registrarref03_Parts.l0, if_neg (by omega), parts_none h58]
  | succ n ih =>
    intro i k hi h58 hk
    obtain ⟨k, rfl⟩ : ∃ m, k = m + 1 := ⟨k - 1, by omega⟩
    have e1 : wrap64 ((i : Int) + 1) = ((i + 1 : Nat) : Int) := by rw [wrapI (by omega) (by omega)]; omega
    rw [registrarref03_Parts.l0, if_pos (by omega), if_pos (by omega), bt_getD s i (by omega)]
    by_cases hc : (bytesOf s).getD i 0 = 58
    · have hsp := split_at s i (by omega) hc
      have hcol : colon s = i := by
        unfold colon
        rw [hsp, (take58 _ _ h58).1, List.length_take, bytes_length]; omega
      have htag : tagB s = (mayL ((bytesOf s).take i) && mayL ((bytesOf s).drop (i + 1))) := by
        unfold tagB
        rw [hsp, tagL_cut _ _ h58]
        rw [← hsp]
      have m1 : registrarref03_MayG.f (s.extract 0 i) = some (mayL ((bytesOf s).take i)) := by
        unfold registrarref03_MayG.f
        rw [if_pos (Nat.le_trans (ext_le s 0 i) hs), ext0]
      have m2 : registrarref03_MayG.f (s.extract (i + 1) s.size) = some (mayL ((bytesOf s).drop (i + 1))) := by
        unfold registrarref03_MayG.f
        rw [if_pos (Nat.le_trans (ext_le s (i + 1) s.size) hs), ext1]
      rw [if_pos hc, if_pos (by omega), e1, Int.toNat_natCast, Int.toNat_natCast, m1, m2]
      simp only [Option.bind_some]
      rw [if_pos (by omega), if_pos (by omega)]
      unfold partsS
      rw [htag, hcol]
      cases mayL ((bytesOf s).take i) <;> cases mayL ((bytesOf s).drop (i + 1)) <;> rfl
    · rw [if_neg hc, e1, ih (i + 1) k (by omega) ?_ (by omega)]
      rw [take_snoc _ i (by rw [bytes_length]; omega), List.mem_append, not_or]
      exact ⟨h58, by rw [List.mem_singleton]; exact fun e => hc e.symm⟩
def registrarref03_PartsG.f (a0 : ByteArray) : Option (ByteArray × ByteArray × Bool) := if a0.size ≤ 9223372036854775807 then some (partsS a0) else none
theorem registrarref03_PartsG.val {a0 : ByteArray} {r1 r2 : ByteArray} {r3 : Bool} (h : registrarref03_PartsG.f a0 = some (r1, r2, r3)) : ∃ k, registrarref03_Parts.f k a0 = some (r1, r2, r3) := by
  unfold registrarref03_PartsG.f at h
  by_cases hc : a0.size ≤ 9223372036854775807
  · rw [if_pos hc] at h
    rw [← h]
    exact ⟨_, parts_loop a0 hc a0.size 0 (a0.size + 1) (by omega) (by simp) (by omega)⟩
  · rw [if_neg hc] at h; cases h
theorem registrarref03_PartsG.calls (a0 : ByteArray) (r1 : ByteArray) (r2 : ByteArray) (r3 : Bool) (w : World) (h : registrarref03_PartsG.f a0 = some (r1, r2, r3)) :
    Calls Try.prog 63 #[.string a0] w fun e w' => e = .returned (.tuple #[.string r1, .string r2, .bool r3]) ∧ Below w.heap.size w w' := by
  obtain ⟨k, hk⟩ := registrarref03_PartsG.val h
  exact registrarref03_Parts.calls k a0 r1 r2 r3 w hk
end Go.Proofs.Ytdpigeineephlaa.Prt
namespace Go.Proofs.Ytdpigeineephlaa.Prt
open Go.RowKit Go.Proofs.YtdpigeineephlaaW.PrintWords Go.Proofs.YtdpigeineephlaaW.PrintLast Go.Proofs.YtdpigeineephlaaW.PrintMore
attribute [local go_sem] max2_int min2_int max_two min_two max_three min_three max_four min_four   -- for this text's walks alone
set_option linter.unusedVariables false
set_option linter.unusedSimpArgs false

def registrarref04_Texts.l0 : Nat → List ByteArray → List ByteArray → Int → Option (Bool)
  | 0, _, _, _ => none
  | k + 1, x0, x1, x5 => if x5 < (x0.length : Int) then (if 0 ≤ x5 then (if x5 < (x1.length : Int) then (if (rdOf ByteArray.empty x0 x5).toList = (rdOf ByteArray.empty x1 x5).toList then (registrarref04_Texts.l0 k x0 x1 (wrap64 (x5 + 1))) else (some false)) else (none)) else (none)) else (some true)
def registrarref04_Texts.f (k : Nat) (l0 : List ByteArray) (l1 : List ByteArray) : Option (Bool) := if (l0.length : Int) = (l1.length : Int) then (registrarref04_Texts.l0 k l0 l1 0) else (some false)
set_option maxHeartbeats 8000000 in
set_option maxRecDepth 100000 in
theorem registrarref04_Texts.calls (k : Nat) (A0 : Option Addr) (c0 : Nat) (l0 : List ByteArray) (A1 : Option Addr) (c1 : Nat) (l1 : List ByteArray) (r : Bool) (w : World) (hr0 : Kd.C Kd.string w A0 l0.length l0) (hc0 : l0.length ≤ c0) (hr1 : Kd.C Kd.string w A1 l1.length l1) (hc1 : l1.length ≤ c1) (h : registrarref04_Texts.f k l0 l1 = some r) :
    Calls Try.prog 38 #[.slice A0 l0.length c0, .slice A1 l1.length c1] w fun e w' => e = .returned (.bool r) ∧ Drawn0 w w' := by
  have HR0 := Aside0.mk hr0
  have HC0 := Aside0.mk hc0
  clear hr0 hc0
  have HR1 := Aside0.mk hr1
  have HC1 := Aside0.mk hc1
  clear hr1 hc1
  have H : (if (l0.length : Int) = (l1.length : Int) then (registrarref04_Texts.l0 k l0 l1 0) else (some false)) = some r := h
  clear h
  by_cases c3 : (l0.length : Int) = (l1.length : Int)
  · rw [if_pos c3] at H
    have c3b0 : ((l0.length : Int) == (l1.length : Int)) = true := beq_iff_eq.mpr c3
    have c3b1 : ((l0.length : Int) != (l1.length : Int)) = false := bne_eq_false_iff_eq.mpr c3
    have c3b2 : (l0.length == l1.length) = true := by first | simpa using c3 | (simp at c3 ⊢; omega)
    clear c3
    have H' := Aside0.mk H
    clear H
    go_enter Try.func38, Try.ntmps38
    go_wp2
    repeat (go_quiet (fail); try go_wp2)
    go_loopg [5] k (fun kq v5 w' => ∃ (x5_1 : Int), v5 = .int .i64 x5_1 ∧ Aside0 (registrarref04_Texts.l0 kq l0 l1 x5_1 = some r) ∧ Aside0 (kq ≤ k) ∧ Drawn0 w w')
    case atStart => exact ⟨(0), (by first | rfl | (simp; done) | (simp [*]; done)), H', ⟨Nat.le_refl _⟩, by repeat (first | exact Drawn0.refl _ | apply Drawn0.step)⟩
    case round =>
      clear H'
      try clear c1
      try clear p2
      try clear c3
      try clear c3b0
      try clear c3b1
      try clear c3b2
      obtain ⟨x5_1, rfl, HA, HK1, ⟨m1, rfl⟩⟩ := hrel
      cases gk with
      | zero => exact absurd HA.out (by simp [registrarref04_Texts.l0])
      | succ k1 =>
        have H := HA.out
        clear HA
        simp only [registrarref04_Texts.l0] at H
        by_cases c4 : x5_1 < (l0.length : Int)
        · rw [if_pos c4] at H
          have c4b0 : decide (x5_1 < (l0.length : Int)) = true := decide_eq_true c4
          clear c4
          by_cases c5 : 0 ≤ x5_1
          · rw [if_pos c5] at H
            have c5b0 : decide (0 ≤ x5_1) = true := decide_eq_true c5
            clear c5
            by_cases c6 : x5_1 < (l1.length : Int)
            · rw [if_pos c6] at H
              have c6b0 : decide (x5_1 < (l1.length : Int)) = true := decide_eq_true c6
              clear c6
              by_cases c7 : (rdOf ByteArray.empty l0 x5_1).toList = (rdOf ByteArray.empty l1 x5_1).toList
              · rw [if_pos c7] at H
                have c7b0 : ((rdOf ByteArray.empty l0 x5_1).toList == (rdOf ByteArray.empty l1 x5_1).toList) = true := beq_iff_eq.mpr c7
                have c7b1 : ((rdOf ByteArray.empty l0 x5_1).toList != (rdOf ByteArray.empty l1 x5_1).toList) = false := bne_eq_false_iff_eq.mpr c7
                clear c7
                have H' := Aside0.mk H
                clear H
                have p299 : 0 ≤ (x5_1 : Int) := of_decide_eq_true (by first | (with_reducible assumption) | assumption)
                have q299 : x5_1 < (l0.length : Int) := of_decide_eq_true (by first | (with_reducible assumption) | assumption)
                obtain ⟨ad299, e299, hx299_0⟩ := Kd.at_string HR0.out x5_1 p299 q299
                cases e299
                replace p299 := eq_true p299
                replace q299 := eq_true q299
                have p300 : 0 ≤ (x5_1 : Int) := of_decide_eq_true (by first | (with_reducible assumption) | assumption)
                have q300 : x5_1 < (l1.length : Int) := of_decide_eq_true (by first | (with_reducible assumption) | assumption)
                obtain ⟨ad300, e300, hx300_0⟩ := Kd.at_string HR1.out x5_1 p300 q300
                cases e300
                replace p300 := eq_true p300
                replace q300 := eq_true q300
                go_wp2
                repeat (go_quiet (fail); try go_wp2)
                go_roundg k1
                case measure => have := HK1.out; omega
                case rel => exact ⟨(wrap64 (x5_1 + 1)), (by first | rfl | (simp; done) | (simp [*]; done)), H', ⟨by have := HK1.out; omega⟩, by repeat (first | exact Drawn0.refl _ | apply Drawn0.step)⟩
              · rw [if_neg c7] at H
                have c7b0 : ((rdOf ByteArray.empty l0 x5_1).toList == (rdOf ByteArray.empty l1 x5_1).toList) = false := beq_eq_false_iff_ne.mpr c7
                have c7b1 : ((rdOf ByteArray.empty l0 x5_1).toList != (rdOf ByteArray.empty l1 x5_1).toList) = true := bne_iff_ne.mpr c7
                obtain rfl := Option.some.inj H
                have p299 : 0 ≤ (x5_1 : Int) := of_decide_eq_true (by first | (with_reducible assumption) | assumption)
                have q299 : x5_1 < (l0.length : Int) := of_decide_eq_true (by first | (with_reducible assumption) | assumption)
                obtain ⟨ad299, e299, hx299_0⟩ := Kd.at_string HR0.out x5_1 p299 q299
                cases e299
                replace p299 := eq_true p299
                replace q299 := eq_true q299
                have p300 : 0 ≤ (x5_1 : Int) := of_decide_eq_true (by first | (with_reducible assumption) | assumption)
                have q300 : x5_1 < (l1.length : Int) := of_decide_eq_true (by first | (with_reducible assumption) | assumption)
                obtain ⟨ad300, e300, hx300_0⟩ := Kd.at_string HR1.out x5_1 p300 q300
                cases e300
                replace p300 := eq_true p300
                replace q300 := eq_true q300
                go_wp2
                repeat (go_quiet (fail); try go_wp2)
                go_ret
                exact ⟨by first | rfl | (simp; done) | (simp [*]; done), by repeat (first | exact Drawn0.refl _ | apply Drawn0.step)⟩
            · rw [if_neg c6] at H
              exact absurd H (by simp)
          · rw [if_neg c5] at H
            exact absurd H (by simp)
        · rw [if_neg c4] at H
          have c4b0 : decide (x5_1 < (l0.length : Int)) = false := decide_eq_false c4
          clear c4
          obtain rfl := Option.some.inj H
          go_wp2
          repeat (go_quiet (fail); try go_wp2)
          go_ret
          exact ⟨by first | rfl | (simp; done) | (simp [*]; done), by repeat (first | exact Drawn0.refl _ | apply Drawn0.step)⟩
  · rw [if_neg c3] at H
    have c3b0 : ((l0.length : Int) == (l1.length : Int)) = false := beq_eq_false_iff_ne.mpr c3
    have c3b1 : ((l0.length : Int) != (l1.length : Int)) = true := bne_iff_ne.mpr c3
    have c3b2 : (l0.length == l1.length) = false := by first | simpa using c3 | (simp at c3 ⊢; omega)
    obtain rfl := Option.some.inj H
    go_enter Try.func38, Try.ntmps38
    go_wp2
    repeat (go_quiet (fail); try go_wp2)
    go_ret
    exact ⟨by first | rfl | (simp; done) | (simp [*]; done), by repeat (first | exact Drawn0.refl _ | apply Drawn0.step)⟩

end Go.Proofs.Ytdpigeineephlaa.Prt
namespace Go.Proofs.Ytdpigeineephlaa.Prt
open Go.RowKit Go.Proofs.YtdpigeineephlaaW.PrintWords Go.Proofs.YtdpigeineephlaaW.PrintLast Go.Proofs.YtdpigeineephlaaW.PrintMore
attribute [local go_sem] max2_int min2_int max_two min_two max_three min_three max_four min_four   -- for this text's walks alone
set_option linter.unusedVariables false
set_option linter.unusedSimpArgs false

def registrarref04_Rise.l0 : Nat → List ByteArray → Int → Option (Bool)
  | 0, _, _ => none
  | k + 1, x0, x3 => if x3 < (x0.length : Int) then (if 0 ≤ (wrap64 (x3 - 1)) then (if (wrap64 (x3 - 1)) < (x0.length : Int) then (if 0 ≤ x3 then (if ((Op.bytesLess ((rdOf ByteArray.empty x0 (wrap64 (x3 - 1))).toList) ((rdOf ByteArray.empty x0 x3).toList)) = true) then (registrarref04_Rise.l0 k x0 (wrap64 (x3 + 1))) else (some false)) else (none)) else (none)) else (none)) else (some true)
def registrarref04_Rise.f (k : Nat) (l0 : List ByteArray) : Option (Bool) := registrarref04_Rise.l0 k l0 1
set_option maxHeartbeats 8000000 in
set_option maxRecDepth 100000 in
theorem registrarref04_Rise.calls (k : Nat) (A0 : Option Addr) (c0 : Nat) (l0 : List ByteArray) (r : Bool) (w : World) (hr0 : Kd.C Kd.string w A0 l0.length l0) (hc0 : l0.length ≤ c0) (h : registrarref04_Rise.f k l0 = some r) :
    Calls Try.prog 64 #[.slice A0 l0.length c0] w fun e w' => e = .returned (.bool r) ∧ Drawn0 w w' := by
  have HR0 := Aside0.mk hr0
  have HC0 := Aside0.mk hc0
  clear hr0 hc0
  have H : (registrarref04_Rise.l0 k l0 1) = some r := h
  clear h
  have H' := Aside0.mk H
  clear H
  go_enter Try.func64, Try.ntmps64
  go_wp2
  repeat (go_quiet (fail); try go_wp2)
  go_loopg [3] k (fun kq v3 w' => ∃ (x3_1 : Int), v3 = .int .i64 x3_1 ∧ Aside0 (registrarref04_Rise.l0 kq l0 x3_1 = some r) ∧ Aside0 (kq ≤ k) ∧ Drawn0 w w')
  case atStart => exact ⟨(1), (by first | rfl | (simp; done) | (simp [*]; done)), H', ⟨Nat.le_refl _⟩, by repeat (first | exact Drawn0.refl _ | apply Drawn0.step)⟩
  case round =>
    clear H'
    obtain ⟨x3_1, rfl, HA, HK1, ⟨m1, rfl⟩⟩ := hrel
    cases gk with
    | zero => exact absurd HA.out (by simp [registrarref04_Rise.l0])
    | succ k1 =>
      have H := HA.out
      clear HA
      simp only [registrarref04_Rise.l0] at H
      by_cases c2 : x3_1 < (l0.length : Int)
      · rw [if_pos c2] at H
        have c2b0 : decide (x3_1 < (l0.length : Int)) = true := decide_eq_true c2
        clear c2
        obtain ⟨ji3, hji3⟩ : ∃ j_ : Int, (wrap64 (x3_1 - 1)) = j_ := ⟨_, rfl⟩
        replace H : (if 0 ≤ (ji3) then (if (ji3) < (l0.length : Int) then (if 0 ≤ x3_1 then (if ((Op.bytesLess ((rdOf ByteArray.empty l0 (ji3)).toList) ((rdOf ByteArray.empty l0 x3_1).toList)) = true) then (registrarref04_Rise.l0 k1 l0 (wrap64 (x3_1 + 1))) else (some false)) else (none)) else (none)) else (none)) = some r := by first | (rw [hji3] at H; exact H) | (simp only [hji3] at H ⊢; exact H)
        have hji3w : (IntKind.i64.wrap (x3_1 - 1)) = ji3 := (i64_w _).trans hji3
        by_cases c4 : 0 ≤ (ji3)
        · rw [if_pos c4] at H
          have c4b0 : decide (0 ≤ (ji3)) = true := decide_eq_true c4
          clear c4
          by_cases c5 : (ji3) < (l0.length : Int)
          · rw [if_pos c5] at H
            have c5b0 : decide ((ji3) < (l0.length : Int)) = true := decide_eq_true c5
            clear c5
            by_cases c6 : 0 ≤ x3_1
            · rw [if_pos c6] at H
              have c6b0 : decide (0 ≤ x3_1) = true := decide_eq_true c6
              clear c6
              by_cases c7 : ((Op.bytesLess ((rdOf ByteArray.empty l0 (ji3)).toList) ((rdOf ByteArray.empty l0 x3_1).toList)) = true)
              · rw [if_pos c7] at H
                have c7b0 : (Op.bytesLess ((rdOf ByteArray.empty l0 (ji3)).toList) ((rdOf ByteArray.empty l0 x3_1).toList)) = true := c7
                clear c7
                have H' := Aside0.mk H
                clear H
                have p178 : 0 ≤ ((ji3) : Int) := of_decide_eq_true (by first | (with_reducible assumption) | assumption)
                have q178 : (ji3) < (l0.length : Int) := of_decide_eq_true (by first | (with_reducible assumption) | assumption)
                obtain ⟨ad178, e178, hx178_0⟩ := Kd.at_string HR0.out (ji3) p178 q178
                cases e178
                replace p178 := eq_true p178
                replace q178 := eq_true q178
                have p179 : 0 ≤ (x3_1 : Int) := of_decide_eq_true (by first | (with_reducible assumption) | assumption)
                have q179 : x3_1 < (l0.length : Int) := of_decide_eq_true (by first | (with_reducible assumption) | assumption)
                obtain ⟨ad179, e179, hx179_0⟩ := Kd.at_string HR0.out x3_1 p179 q179
                obtain rfl : ad178 = ad179 := (by injection e179)
                replace p179 := eq_true p179
                replace q179 := eq_true q179
                go_wp2
                repeat (go_quiet (fail); try go_wp2)
                go_roundg k1
                case measure => have := HK1.out; omega
                case rel => exact ⟨(wrap64 (x3_1 + 1)), (by first | rfl | (simp; done) | (simp [*]; done)), H', ⟨by have := HK1.out; omega⟩, by repeat (first | exact Drawn0.refl _ | apply Drawn0.step)⟩
              · rw [if_neg c7] at H
                have c7b0 : (Op.bytesLess ((rdOf ByteArray.empty l0 (ji3)).toList) ((rdOf ByteArray.empty l0 x3_1).toList)) = false := by simpa using c7
                clear c7
                obtain rfl := Option.some.inj H
                have p178 : 0 ≤ ((ji3) : Int) := of_decide_eq_true (by first | (with_reducible assumption) | assumption)
                have q178 : (ji3) < (l0.length : Int) := of_decide_eq_true (by first | (with_reducible assumption) | assumption)
                obtain ⟨ad178, e178, hx178_0⟩ := Kd.at_string HR0.out (ji3) p178 q178
                cases e178
                replace p178 := eq_true p178
                replace q178 := eq_true q178
                have p179 : 0 ≤ (x3_1 : Int) := of_decide_eq_true (by first | (with_reducible assumption) | assumption)
                have q179 : x3_1 < (l0.length : Int) := of_decide_eq_true (by first | (with_reducible assumption) | assumption)
                obtain ⟨ad179, e179, hx179_0⟩ := Kd.at_string HR0.out x3_1 p179 q179
                obtain rfl : ad178 = ad179 := (by injection e179)
                replace p179 := eq_true p179
                replace q179 := eq_true q179
                go_wp2
                repeat (go_quiet (fail); try go_wp2)
                go_ret
                exact ⟨by first | rfl | (simp; done) | (simp only [← hji3] <;> (first | rfl | simp)) | (simp [*]; done), by repeat (first | exact Drawn0.refl _ | apply Drawn0.step)⟩
            · rw [if_neg c6] at H
              exact absurd H (by simp)
          · rw [if_neg c5] at H
            exact absurd H (by simp)
        · rw [if_neg c4] at H
          exact absurd H (by simp)
      · rw [if_neg c2] at H
        have c2b0 : decide (x3_1 < (l0.length : Int)) = false := decide_eq_false c2
        clear c2
        obtain rfl := Option.some.inj H
        go_wp2
        repeat (go_quiet (fail); try go_wp2)
        go_ret
        exact ⟨by first | rfl | (simp; done) | (simp [*]; done), by repeat (first | exact Drawn0.refl _ | apply Drawn0.step)⟩

end Go.Proofs.Ytdpigeineephlaa.Prt
namespace Go.Proofs.Ytdpigeineephlaa.Prt
open Go.RowKit Go.Proofs.YtdpigeineephlaaW.PrintWords Go.Proofs.YtdpigeineephlaaW.PrintLast Go.Proofs.YtdpigeineephlaaW.PrintMore Go.Proofs.Ytdpigeineephlaa.Num Go.Proofs.Ytdpigeineephlaa.Nam
set_option linter.unusedVariables false
set_option linter.unusedSimpArgs false

theorem succW (i : Nat) (h : i < 9223372036854775807) : wrap64 ((i : Int) + 1) = ((i + 1 : Nat) : Int) := by rw [wrapI (by omega) (by omega)]; omega
theorem rdOf_mem {l : List ByteArray} {i : Nat} (h : i < l.length) : rdOf ByteArray.empty l (i : Int) ∈ l := getD_mem' h _
theorem drop_rd (l : List ByteArray) (i : Nat) (h : i < l.length) : l.drop i = rdOf ByteArray.empty l (i : Int) :: l.drop (i + 1) := by
  rw [List.drop_eq_getElem_cons h]
  unfold rdOf
  rw [Int.toNat_natCast, List.getD_eq_getElem?_getD, List.getElem?_eq_getElem h]; rfl
theorem partsS_tag (s : ByteArray) : (partsS s).2.2 = tagB s := by
  unfold partsS
  cases tagB s <;> rfl
theorem rise04_loop (l : List ByteArray) (hl : l.length ≤ 9223372036854775807) : ∀ (d i k : Nat), i + 1 + d = l.length → d < k → registrarref04_Rise.l0 k l ((i + 1 : Nat) : Int) = some (riseB (l.drop i)) := by
  intro d
  induction d with
  | zero =>
    intro i k hi hk
    obtain ⟨k, rfl⟩ : ∃ m, k = m + 1 := ⟨k - 1, by omega⟩
    rw [registrarref04_Rise.l0, if_neg (by omega), rise_end l i (by omega)]
  | succ d ih =>
    intro i k hi hk
    obtain ⟨k, rfl⟩ : ∃ m, k = m + 1 := ⟨k - 1, by omega⟩
    have e1 : wrap64 (((i + 1 : Nat) : Int) - 1) = (i : Int) := by rw [wrapI (by omega) (by omega)]; omega
    rw [registrarref04_Rise.l0, if_pos (by omega), e1, succW (i + 1) (by omega), if_pos (by omega), if_pos (by omega), if_pos (by omega), rise_step l i (by omega)]
    have e3 : Op.bytesLess (rdOf ByteArray.empty l (i : Int)).toList (rdOf ByteArray.empty l ((i + 1 : Nat) : Int)).toList = lessS (l.getD i ByteArray.empty) (l.getD (i + 1) ByteArray.empty) := rfl
    rw [e3]
    cases hs : lessS (l.getD i ByteArray.empty) (l.getD (i + 1) ByteArray.empty) with
    | true => rw [if_pos rfl, ih (i + 1) k (by omega) (by omega)]; rfl
    | false => rw [if_neg (by decide)]; rfl
def registrarref04_RiseG.f (l0 : List ByteArray) : Option (Bool) := if l0.length ≤ 9223372036854775807 then some (riseB l0) else none
theorem registrarref04_RiseG.val {l0 : List ByteArray} {r : Bool} (h : registrarref04_RiseG.f l0 = some r) : ∃ k, registrarref04_Rise.f k l0 = some r := by
  unfold registrarref04_RiseG.f at h
  by_cases hc : l0.length ≤ 9223372036854775807
  · rw [if_pos hc] at h
    rw [← h]
    refine ⟨l0.length + 1, ?_⟩
    unfold registrarref04_Rise.f
    cases hl : l0.length with
    | zero =>
      obtain rfl := List.eq_nil_of_length_eq_zero hl
      rfl
    | succ n =>
      have := rise04_loop l0 hc n 0 (n + 1 + 1) (by omega) (by omega)
      rwa [List.drop_zero] at this
  · rw [if_neg hc] at h; cases h
theorem registrarref04_RiseG.calls (A0 : Option Addr) (c0 : Nat) (l0 : List ByteArray) (r : Bool) (w : World) (hr0 : Kd.C Kd.string w A0 l0.length l0) (hc0 : l0.length ≤ c0) (h : registrarref04_RiseG.f l0 = some r) :
    Calls Try.prog 64 #[.slice A0 l0.length c0] w fun e w' => e = .returned (.bool r) ∧ Drawn0 w w' := by
  obtain ⟨k, hk⟩ := registrarref04_RiseG.val h
  exact registrarref04_Rise.calls k A0 c0 l0 r w hr0 hc0 hk

/-- Two rows are the same, element by element. -/
def eqL {α : Type} (e : α → α → Bool) : List α → List α → Bool
  | [], [] => true
  | a :: r, b :: s => e a b && eqL e r s
  | _, _ => false
theorem eqL_iff {α : Type} {e : α → α → Bool} (h : ∀ x y, e x y = true ↔ x = y) : ∀ a b, eqL e a b = true ↔ a = b
  | [], [] => by simp [eqL]
  | a :: r, b :: s => by simp [eqL, h, eqL_iff h r s]
  | [], _ :: _ => by simp [eqL]
  | _ :: _, [] => by simp [eqL]
theorem eqL_len {α : Type} {e : α → α → Bool} : ∀ a b, a.length ≠ b.length → eqL e a b = false
  | [], [], h => absurd rfl h
  | a :: r, b :: s, h => by rw [eqL, eqL_len r s (fun h2 => h (by simp [h2])), Bool.and_false]
  | [], _ :: _, _ => rfl
  | _ :: _, [], _ => rfl
def eqS (a b : ByteArray) : Bool := a.toList == b.toList
theorem eqS_iff (a b : ByteArray) : eqS a b = true ↔ a = b := by unfold eqS; rw [beq_iff_eq]; exact ⟨toList_inj, fun h => by rw [h]⟩
theorem texts_loop (a b : List ByteArray) (hl : a.length ≤ 9223372036854775807) (hab : a.length = b.length) : ∀ (n i k : Nat), i + n = a.length → n < k → registrarref04_Texts.l0 k a b (i : Int) = some (eqL eqS (a.drop i) (b.drop i)) := by
  intro n
  induction n with
  | zero =>
    intro i k hi hk
    obtain ⟨k, rfl⟩ : ∃ m, k = m + 1 := ⟨k - 1, by omega⟩
    rw [registrarref04_Texts.l0, if_neg (by omega), List.drop_eq_nil_of_le (by omega), List.drop_eq_nil_of_le (by omega)]; rfl
  | succ n ih =>
    intro i k hi hk
    obtain ⟨k, rfl⟩ : ∃ m, k = m + 1 := ⟨k - 1, by omega⟩
    rw [registrarref04_Texts.l0, if_pos (by omega), if_pos (by omega), if_pos (by omega), drop_rd a i (by omega), drop_rd b i (by omega), eqL]
    by_cases he : (rdOf ByteArray.empty a (i : Int)).toList = (rdOf ByteArray.empty b (i : Int)).toList
    · rw [if_pos he, succW i (by omega), ih (i + 1) k (by omega) (by omega)]
      have : eqS (rdOf ByteArray.empty a (i : Int)) (rdOf ByteArray.empty b (i : Int)) = true := beq_iff_eq.2 he
      rw [this]; rfl
    · rw [if_neg he]
      have : eqS (rdOf ByteArray.empty a (i : Int)) (rdOf ByteArray.empty b (i : Int)) = false := beq_eq_false_iff_ne.2 he
      rw [this]; rfl
def registrarref04_TextsG.f (l0 : List ByteArray) (l1 : List ByteArray) : Option (Bool) := if l0.length ≤ 9223372036854775807 then some (eqL eqS l0 l1) else none
theorem registrarref04_TextsG.val {l0 l1 : List ByteArray} {r : Bool} (h : registrarref04_TextsG.f l0 l1 = some r) : ∃ k, registrarref04_Texts.f k l0 l1 = some r := by
  unfold registrarref04_TextsG.f at h
  by_cases hc : l0.length ≤ 9223372036854775807
  · rw [if_pos hc] at h
    rw [← h]
    refine ⟨l0.length + 1, ?_⟩
    unfold registrarref04_Texts.f
    by_cases hl : l0.length = l1.length
    · rw [if_pos (by omega)]
      exact texts_loop l0 l1 hc hl l0.length 0 (l0.length + 1) (by omega) (by omega)
    · rw [if_neg (by omega), eqL_len _ _ hl]
  · rw [if_neg hc] at h; cases h
theorem registrarref04_TextsG.calls (A0 : Option Addr) (c0 : Nat) (l0 : List ByteArray) (A1 : Option Addr) (c1 : Nat) (l1 : List ByteArray) (r : Bool) (w : World) (hr0 : Kd.C Kd.string w A0 l0.length l0) (hc0 : l0.length ≤ c0) (hr1 : Kd.C Kd.string w A1 l1.length l1) (hc1 : l1.length ≤ c1) (h : registrarref04_TextsG.f l0 l1 = some r) :
    Calls Try.prog 38 #[.slice A0 l0.length c0, .slice A1 l1.length c1] w fun e w' => e = .returned (.bool r) ∧ Drawn0 w w' := by
  obtain ⟨k, hk⟩ := registrarref04_TextsG.val h
  exact registrarref04_Texts.calls k A0 c0 l0 A1 c1 l1 r w hr0 hc0 hr1 hc1 hk
end Go.Proofs.Ytdpigeineephlaa.Prt
namespace Go.Proofs.Ytdpigeineephlaa.Num
open Go.RowKit Go.Proofs.YtdpigeineephlaaW.PrintWords Go.Proofs.YtdpigeineephlaaW.PrintLast Go.Proofs.YtdpigeineephlaaW.PrintMore Go.Proofs.Ytdpigeineephlaa.Prt Go.Proofs.Ytdpigeineephlaa.Nam
set_option linter.unusedVariables false
set_option linter.unusedSimpArgs false

theorem R_off' {α : Type} {d : Kd α} {e N B : Nat} {w w' : World} {v : Value} {l : List α} (h : d.R e w N (fun _ => True) v l) (hB : B < N) (hk : KeepBut w w' B none) : d.R e w' N (fun _ => True) v l :=
  Kd.R_mono (Kd.R_keep (Kd.R_bound h) hk (fun k hk => by have := hk.2.1; omega)) (fun _ _ => trivial)
theorem R_set {α : Type} {d : Kd α} {e N t E : Nat} {w : World} {v : Value} {l : List α} {cells : Array Value} (h : d.R e w N (fun _ => True) v l) (hb : w.heap[E]? = some (.cells cells t (0, 0))) (ht : ∀ q, q ∈ e :: d.E → q ≠ t) (i : Nat) (u : Value) : d.R e (w.setCell ⟨E, i, none⟩ u) N (fun _ => True) v l :=
  Kd.R_mono (Kd.R_far (p := ⟨E, i, none⟩) (Kd.R_types h hb ht) (fun k hk => hk.2) u) (fun _ _ => trivial)
theorem Rd.grown {T : Nat} {P : Nat → Prop} {W W1 : World} {g : Nat} {l : List Int} {bad : Bool} {row : Option Nat} (h : Rd T P W g l bad) (hg : W.grownBy W1 row) (hne : some g ≠ row) (hP : ∀ k, P k → some k ≠ row) : Rd T P W1 g l bad := by
  obtain ⟨A, c, h1, h2, h3, h4, h5⟩ := h
  refine ⟨A, c, blk_grown h1 hg hne, h2, ?_, h4, h5⟩
  cases row with
  | none =>
    have hk : KeepBut W W1 g none := KeepBut.of_grown hg g
    exact Kd.C_keep (0 : Int) h3 hk (fun ad e hn he => h5 (he ▸ h4 ad e hn))
  | some b =>
    have hk : KeepBut W W1 b none := ⟨hg.size, fun i hi hb _ => hg.block i hi (by simpa using hb)⟩
    exact Kd.C_keep (0 : Int) h3 hk (fun ad e hn he => by have := hP _ (h4 ad e hn); rw [he] at this; exact this rfl)
theorem ne_base {N g : Nat} {v : Value} (hb : ∀ k, v.ownBlock = some k → N ≤ k) (hg : g < N) : some g ≠ v.ownBlock := fun e => by have := hb g e.symm; omega
theorem info_str : (Try.prog.info? 9).map (fun i => (i.zero, i.size, i.bytes)) = some (some (.string ⟨#[]⟩), 1, 16) := by kernel_rfl
theorem aftT_bytes {l : List Int} (h : isBytes l) : isBytes (aftT l) := by
  unfold aftT
  cases hd : decT l with
  | none => intro c hc; simp at hc
  | some q =>
    obtain ⟨s, r⟩ := q
    have := (decT_sound h hd).1
    rw [this] at h
    exact (isBytes_append.1 h).2
theorem aft_len (l : List Int) (hb : isBytes l) : (aft l).length ≤ l.length := by
  unfold aft
  cases hd : dec l with
  | none => simp
  | some q =>
    obtain ⟨x, r⟩ := q
    have := (dec_sound hb hd).1
    rw [this]; simp
theorem aftT_len (l : List Int) (hb : isBytes l) : (aftT l).length ≤ l.length := by
  unfold aftT
  cases hd : decT l with
  | none => simp
  | some q =>
    obtain ⟨x, r⟩ := q
    have := (decT_sound hb hd).1
    rw [this]; simp
theorem textOf_size (l : List Int) (hb : isBytes l) : (textOf l).size ≤ l.length := by
  unfold textOf
  cases hd : decT l with
  | none => exact Nat.zero_le _
  | some q =>
    obtain ⟨x, r⟩ := q
    have h1 := (decT_sound hb hd).1
    have h2 : (strOfNums x).size = x.length := strOfNums_size' x
    show (strOfNums x).size ≤ _
    rw [h2, h1]; unfold encT; simp; omega
/-- So many texts taken. -/
def takeTs : Nat → List Int → Bool → List ByteArray × List Int × Bool
  | 0, l, b => ([], l, b)
  | n + 1, l, b => ((takeTs n l b).1 ++ [textOf (takeTs n l b).2.1], aftT (takeTs n l b).2.1, badT (takeTs n l b).2.1 (takeTs n l b).2.2)
theorem takeTs_len (l : List Int) (b : Bool) : ∀ n, (takeTs n l b).1.length = n
  | 0 => rfl
  | n + 1 => by simp only [takeTs, List.length_append, List.length_singleton, takeTs_len l b n]
theorem takeTs_left (l : List Int) (b : Bool) (hb : isBytes l) : ∀ n, isBytes (takeTs n l b).2.1 ∧ (takeTs n l b).2.1.length ≤ l.length ∧ ∀ x ∈ (takeTs n l b).1, x.size ≤ l.length
  | 0 => ⟨hb, Nat.le_refl _, fun x hx => by simp [takeTs] at hx⟩
  | n + 1 => by
    obtain ⟨h1, h2, h3⟩ := takeTs_left l b hb n
    refine ⟨aftT_bytes h1, Nat.le_trans (aftT_len _ h1) h2, fun x hx => ?_⟩
    simp only [takeTs] at hx
    rcases List.mem_append.1 hx with hx | hx
    · exact h3 x hx
    · rw [List.mem_singleton.1 hx]; exact Nat.le_trans (textOf_size _ h1) h2
end Go.Proofs.Ytdpigeineephlaa.Num
namespace Go.Proofs.Ytdpigeineephlaa.Prt
open Go.RowKit Go.Proofs.YtdpigeineephlaaW.PrintWords Go.Proofs.YtdpigeineephlaaW.PrintLast Go.Proofs.YtdpigeineephlaaW.PrintMore Go.Proofs.Ytdpigeineephlaa.Num Go.Proofs.Ytdpigeineephlaa.Nam
set_option linter.unusedVariables false
set_option linter.unusedSimpArgs false
theorem numOf_good {l : List Int} {b : Bool} (hb : isBytes l) (h : badOf l b = false) : b = false ∧ l = enc (numOf l) ++ aft l ∧ i64 (numOf l) := by
  unfold badOf at h
  cases hd : dec l with
  | none => rw [hd] at h; simp at h
  | some q =>
    obtain ⟨x, r⟩ := q
    rw [hd] at h
    obtain ⟨h1, h2⟩ := dec_sound hb hd
    have e1 : numOf l = x := by unfold numOf; rw [hd]
    have e2 : aft l = r := by unfold aft; rw [hd]
    rw [e1, e2]
    exact ⟨by simpa using h, h1, h2⟩
theorem textOf_good {l : List Int} {b : Bool} (hb : isBytes l) (h : badT l b = false) : b = false ∧ l = encT (bytesOf (textOf l)) ++ aftT l := by
  unfold badT at h
  cases hd : decT l with
  | none => rw [hd] at h; simp at h
  | some q =>
    obtain ⟨x, r⟩ := q
    rw [hd] at h
    obtain ⟨h1, h2⟩ := decT_sound hb hd
    have hx : isBytes x := by rw [h1] at hb; unfold encT at hb; exact (isBytes_append.1 (isBytes_append.1 hb).1).2
    have e1 : textOf l = strOfNums x := by unfold textOf; rw [hd]
    have e2 : aftT l = r := by unfold aftT; rw [hd]
    rw [e1, e2, bytesOf_strOfNums hx]
    exact ⟨by simpa using h, h1⟩
/-- What was laid down is taken. -/
theorem textOf_enc {s : ByteArray} (hs : s.size ≤ 9223372036854775807) (r : List Int) (b : Bool) : textOf (encT (bytesOf s) ++ r) = s ∧ aftT (encT (bytesOf s) ++ r) = r ∧ badT (encT (bytesOf s) ++ r) b = b := by
  unfold textOf aftT badT
  rw [decT_encT (by rw [bytes_length]; exact hs)]
  exact ⟨strOfNums_bytesOf s, rfl, by simp⟩
theorem numOf_enc {x : Int} (h : i64 x) (r : List Int) (b : Bool) : numOf (enc x ++ r) = x ∧ aft (enc x ++ r) = r ∧ badOf (enc x ++ r) b = b := by
  unfold numOf aft badOf
  rw [dec_enc h]
  exact ⟨rfl, rfl, by simp⟩
theorem encTs_snoc (a : List ByteArray) (x : ByteArray) : encTs (a ++ [x]) = encTs a ++ encT (bytesOf x) := by unfold encTs; simp
theorem takeTs_good (l : List Int) (b : Bool) (hb : isBytes l) : ∀ n, (takeTs n l b).2.2 = false → b = false ∧ l = encTs (takeTs n l b).1 ++ (takeTs n l b).2.1
  | 0, h => ⟨h, rfl⟩
  | n + 1, h => by
    simp only [takeTs] at h ⊢
    obtain ⟨h1, h2⟩ := textOf_good (takeTs_left l b hb n).1 h
    obtain ⟨h3, h4⟩ := takeTs_good l b hb n h1
    refine ⟨h3, ?_⟩
    rw [encTs_snoc, List.append_assoc, ← h2]; exact h4
theorem takeTs_enc (a : List ByteArray) (ha : ∀ x ∈ a, x.size ≤ 9223372036854775807) (r : List Int) (b : Bool) : ∀ n, n ≤ a.length → takeTs n (encTs a ++ r) b = (a.take n, encTs (a.drop n) ++ r, b)
  | 0, _ => by simp [takeTs]
  | n + 1, h => by
    have ih := takeTs_enc a ha r b n (by omega)
    have hd := drop_rd a n (by omega)
    have hx := ha _ (rdOf_mem (l := a) (i := n) (by omega))
    simp only [takeTs, ih]
    have e : encTs (a.drop n) ++ r = encT (bytesOf (rdOf ByteArray.empty a (n : Int))) ++ (encTs (a.drop (n + 1)) ++ r) := by
      rw [hd]; unfold encTs; rw [List.flatMap_cons, List.append_assoc]
    rw [e]
    obtain ⟨h1, h2, h3⟩ := textOf_enc hx (encTs (a.drop (n + 1)) ++ r) b
    rw [h1, h2, h3]
    refine Prod.ext ?_ rfl
    show a.take n ++ [rdOf ByteArray.empty a (n : Int)] = a.take (n + 1)
    rw [List.take_succ_eq_append_getElem (by omega)]
    unfold rdOf
    rw [Int.toNat_natCast, List.getD_eq_getElem?_getD, List.getElem?_eq_getElem (by omega)]; rfl
end Go.Proofs.Ytdpigeineephlaa.Prt
namespace Go.Proofs.Ytdpigeineephlaa.Nam
open Go.RowKit Go.Proofs.YtdpigeineephlaaW.PrintWords Go.Proofs.YtdpigeineephlaaW.PrintLast Go.Proofs.YtdpigeineephlaaW.PrintMore Go.Proofs.Ytdpigeineephlaa.Num Go.Proofs.Ytdpigeineephlaa.Prt
set_option linter.unusedVariables false
set_option linter.unusedSimpArgs false

/-- qcode.list: as many as there are, each by a function. -/
theorem listStr (f : ByteArray → List Int) (G : Nat) (A0 : Option Addr) (c0 : Nat) (l0 : List Int) (A : Option Addr) (c : Nat) (l : List ByteArray) (w : World) (hr0 : Kd.C (Kd.int .u8) w A0 l0.length l0) (hc0 : l0.length ≤ c0) (hC : Kd.C Kd.string w A l.length l) (hb : l0.length + ((enc (l.length : Int)).length + (l.flatMap f).length) ≤ 1000000000000)
    (hent : ∀ (xs : Array Value) (W : World), (callFunc G xs).run Try.prog W = .ok (.enter G xs) W)
    (hf : ∀ x ∈ l, ∀ w1, Below w.heap.size w w1 → ∀ A' c' l', Kd.C (Kd.int .u8) w1 A' l'.length l' → l'.length ≤ c' → l'.length + (f x).length ≤ 1000000000000 → Calls Try.prog G #[.slice A' l'.length c', .string x] w1 fun e w2 => ∃ v, e = .returned v ∧ Kd.R (Kd.int .u8) 5 w2 w1.heap.size (fun _ => True) v (l' ++ f x) ∧ Below w1.heap.size w1 w2) :
    Calls Try.prog 62 #[.slice A0 l0.length c0, .slice A l.length c, .func (.func G) #[] #[]] w fun e w' => ∃ v, e = .returned v ∧ Kd.R (Kd.int .u8) 5 w' w.heap.size (fun _ => True) v (l0 ++ (enc (l.length : Int) ++ l.flatMap f)) ∧ Below w.heap.size w w' := by
  have hm := Kd.C_max hC
  have HC := Aside0.mk hC
  have HF := Aside0.mk hf
  have HP := Aside0.mk (num_Put.calls A0 c0 l0 (l.length : Int) (l0 ++ enc (l.length : Int)) w hr0 hc0 (if_pos ⟨by omega, by omega, by omega⟩))
  have HBD := Aside0.mk hb
  clear hr0 hc0 hC hb hf
  go_enter Try.func62, Try.ntmps62
  go_wp2_with fail
  refine HP.out.mono ?_
  rintro e w1 ⟨v1, rfl, ho, hb⟩
  have HO1 := Aside0.mk (show Kd.R (Kd.int .u8) 5 w1 w.heap.size (fun _ => True) v1 (l0 ++ (enc (l.length : Int) ++ (l.take 0).flatMap f)) by rw [List.take_zero, List.flatMap_nil, List.append_nil]; exact ho)
  have HB1 := Aside0.mk hb
  clear ho hb HP
  go_wp2_with fail
  go_loopg [7, 16] (l.length + 1) (fun k v7 v16 w' => ∃ i : Nat, v16 = .int .i64 (i : Int) ∧ Aside0 (i + k = l.length + 1) ∧ Aside0 (Kd.R (Kd.int .u8) 5 w' w.heap.size (fun _ => True) v7 (l0 ++ (enc (l.length : Int) ++ (l.take i).flatMap f))) ∧ Aside0 (Below w.heap.size w w'))
  case atStart => exact ⟨0, rfl, ⟨by omega⟩, HO1, HB1⟩
  case round =>
    clear HO1 HB1
    obtain ⟨i, rfl, HI, HO, HB⟩ := hrel
    obtain ⟨A7, c7, e7⟩ := Kd.R_slice HO.out
    subst e7
    by_cases hi : i < l.length
    · have d1 : decide ((i : Int) < (l.length : Int)) = true := decide_eq_true (by omega)
      obtain ⟨ad, e_, hx⟩ := Kd.at_string (Kd.C_below HC.out HB.out) (i : Int) (by omega) (by omega)
      cases e_
      rw [Int.toNat_natCast] at hx
      obtain ⟨x, hx0⟩ : ∃ x, x = rdOf ByteArray.empty l (i : Int) := ⟨_, rfl⟩
      rw [← hx0] at hx
      have hxm : x ∈ l := by rw [hx0]; exact getD_mem' hi _
      have hxs : (l.take (i + 1)).flatMap f = (l.take i).flatMap f ++ f x := by
        rw [List.take_succ_eq_append_getElem hi, List.flatMap_append]
        congr 1
        rw [hx0]
        unfold rdOf
        rw [Int.toNat_natCast, List.getD_eq_getElem?_getD, List.getElem?_eq_getElem hi]; simp
      have hbx : (l0 ++ (enc (l.length : Int) ++ (l.take i).flatMap f)).length + (f x).length ≤ 1000000000000 := by
        have h1 : l.flatMap f = (l.take (i + 1)).flatMap f ++ (l.drop (i + 1)).flatMap f := by rw [← List.flatMap_append, List.take_append_drop]
        have h2 := congrArg List.length h1
        rw [hxs] at h2
        simp only [List.length_append] at h2 ⊢
        have := HBD.out
        omega
      have HXS := Aside0.mk hxs
      have HXM := Aside0.mk hxm
      have HBX := Aside0.mk hbx
      have HIL := Aside0.mk hi
      clear hx0 hxm hxs hbx
      obtain ⟨-, hc7, hC7⟩ := Kd.R_reads' HO.out
      obtain ⟨lx, hlx⟩ : ∃ lx, lx = l0 ++ (enc (l.length : Int) ++ (l.take i).flatMap f) := ⟨_, rfl⟩
      rw [← hlx] at HO HBX hc7 hC7
      have HLX := Aside0.mk hlx
      have HC7 := Aside0.mk hC7
      have HK7 := Aside0.mk hc7
      rw [← hlx]
      clear hlx hC7 hc7
      go_wp2_with fail
      refine (HF.out x HXM.out _ HB.out A7 c7 lx HC7.out HK7.out HBX.out).mono ?_
      rintro e w4 ⟨v4, rfl, ho, hb⟩
      have HB4 := Aside0.mk (below_step HB.out hb)
      have HO4 := Aside0.mk (Kd.R_lower ho HB.out.size)
      clear ho hb
      go_wp2_with fail
      go_roundg (l.length - i)
      case measure => have := HI.out; omega
      case rel => exact ⟨i + 1, by go_num, ⟨by have := HI.out; omega⟩, ⟨by have h := HO4.out; rw [HLX.out, List.append_assoc, List.append_assoc, ← HXS.out] at h; exact h⟩, HB4⟩
    · have d1 : decide ((i : Int) < (l.length : Int)) = false := decide_eq_false (by omega)
      have HT := Aside0.mk (show l.take i = l from List.take_of_length_le (by omega))
      go_wp2_with fail
      go_ret
      exact ⟨_, rfl, by have h := HO.out; rw [HT.out] at h ⊢; exact h, HB.out⟩

end Go.Proofs.Ytdpigeineephlaa.Nam
namespace Go.Proofs.Ytdpigeineephlaa.Nam
open Go.RowKit Go.Proofs.YtdpigeineephlaaW.PrintWords Go.Proofs.YtdpigeineephlaaW.PrintLast Go.Proofs.YtdpigeineephlaaW.PrintMore Go.Proofs.Ytdpigeineephlaa.Num Go.Proofs.Ytdpigeineephlaa.Prt
set_option linter.unusedVariables false
set_option linter.unusedSimpArgs false

theorem R_setB {α : Type} {d : Kd α} {e N t E : Nat} {w : World} {v : Value} {l : List α} {cells : Array Value} (h : Kd.R d e w N (fun _ => True) v l) (hb : w.heap[E]? = some (.cells cells t (0, 0))) (ht : ∀ q, q ∈ e :: d.E → q ≠ t) (i : Nat) (u : Value) : Kd.R d e (w.setCell ⟨E, i, none⟩ u) N (fun _ => True) v l :=
  Kd.R_mono (Kd.R_far (p := ⟨E, i, none⟩) (Kd.R_types h hb ht) (fun k hk => hk.2) u) (fun _ _ => trivial)
theorem R_setB2 {α : Type} {d : Kd α} {e N t E : Nat} {w : World} {v : Value} {l : List α} {cells : Array Value} (h : Kd.R d e w N (fun _ => True) v l) (hb : w.heap[E]? = some (.cells cells t (0, 0))) (ht : ∀ q, q ∈ e :: d.E → q ≠ t) (u0 u1 : Value) : Kd.R d e ((w.setCell ⟨E, 0, none⟩ u0).setCell ⟨E, 1, none⟩ u1) N (fun _ => True) v l :=
  R_setB (R_setB h hb ht 0 u0) (blk_set hb 0 u0) ht 1 u1
set_option maxRecDepth 100000 in
/-- qcode.list: as many as there are, each by a function. -/
theorem listCla (f : S60 → List Int) (G : Nat) (A0 : Option Addr) (c0 : Nat) (l0 : List Int) (A : Option Addr) (c : Nat) (l : List S60) (w : World) (hr0 : Kd.C (Kd.int .u8) w A0 l0.length l0) (hc0 : l0.length ≤ c0) (hC : Kd.C k60 w A l.length l) (hb : l0.length + ((enc (l.length : Int)).length + (l.flatMap f).length) ≤ 1000000000000)
    (hent : ∀ (xs : Array Value) (W : World), (callFunc G xs).run Try.prog W = .ok (.enter G xs) W)
    (hf : ∀ x ∈ l, ∀ w1, Below w.heap.size w w1 → ∀ A' c' l', Kd.C (Kd.int .u8) w1 A' l'.length l' → l'.length ≤ c' → l'.length + (f x).length ≤ 1000000000000 → ∀ P0 q0 P1 q1, Kd.C Kd.string w1 P0 x.f0.length x.f0 → x.f0.length ≤ q0 → Kd.C Kd.string w1 P1 x.f1.length x.f1 → x.f1.length ≤ q1 → Calls Try.prog G #[.slice A' l'.length c', .agg #[.slice P0 x.f0.length q0, .slice P1 x.f1.length q1]] w1 fun e w2 => ∃ v, e = .returned v ∧ Kd.R (Kd.int .u8) 5 w2 w1.heap.size (fun _ => True) v (l' ++ f x) ∧ Below w1.heap.size w1 w2) :
    Calls Try.prog 60 #[.slice A0 l0.length c0, .slice A l.length c, .func (.func G) #[] #[]] w fun e w' => ∃ v, e = .returned v ∧ Kd.R (Kd.int .u8) 5 w' w.heap.size (fun _ => True) v (l0 ++ (enc (l.length : Int) ++ l.flatMap f)) ∧ Below w.heap.size w w' := by
  have hm := Kd.C_max hC
  have HC := Aside0.mk hC
  have HF := Aside0.mk hf
  have HP := Aside0.mk (num_Put.calls A0 c0 l0 (l.length : Int) (l0 ++ enc (l.length : Int)) w hr0 hc0 (if_pos ⟨by omega, by omega, by omega⟩))
  have HBD := Aside0.mk hb
  clear hr0 hc0 hC hb hf
  have hu60 := Try.underlying60
  go_enter Try.func60, Try.ntmps60
  go_wp2_with fail
  refine HP.out.mono ?_
  rintro e w1 ⟨v1, rfl, ho, hb⟩
  have HO1 := Aside0.mk (show Kd.R (Kd.int .u8) 5 w1 w.heap.size (fun _ => True) v1 (l0 ++ (enc (l.length : Int) ++ (l.take 0).flatMap f)) by rw [List.take_zero, List.flatMap_nil, List.append_nil]; exact ho)
  have HB1 := Aside0.mk hb
  clear ho hb HP
  go_wp2_with fail
  go_loopg [7, 16] (l.length + 1) (fun k v7 v16 w' => ∃ i : Nat, v16 = .int .i64 (i : Int) ∧ Aside0 (i + k = l.length + 1) ∧ Aside0 (Kd.R (Kd.int .u8) 5 w' w.heap.size (fun _ => True) v7 (l0 ++ (enc (l.length : Int) ++ (l.take i).flatMap f))) ∧ Aside0 (Below w.heap.size w w'))
  case atStart => exact ⟨0, rfl, ⟨by omega⟩, HO1, HB1⟩
  case round =>
    clear HO1 HB1
    obtain ⟨i, rfl, HI, HO, HB⟩ := hrel
    obtain ⟨A7, c7, e7⟩ := Kd.R_slice HO.out
    subst e7
    by_cases hi : i < l.length
    · have d1 : decide ((i : Int) < (l.length : Int)) = true := decide_eq_true (by omega)
      obtain ⟨ad, P0, q0, P1, q1, e_, hx, hx1, hl0, hi0, hl1, hi1⟩ := at_T60 (Kd.C_below HC.out HB.out) (i : Int) (by omega) (by omega)
      cases e_
      rw [Int.toNat_natCast] at hx hx1
      obtain ⟨x, hx0⟩ : ∃ x, x = rd_T60 l (i : Int) := ⟨_, rfl⟩
      rw [← hx0] at hx hx1 hl0 hi0 hl1 hi1
      have hxm : x ∈ l := by rw [hx0]; exact getD_mem' hi _
      have hxs : (l.take (i + 1)).flatMap f = (l.take i).flatMap f ++ f x := by
        rw [List.take_succ_eq_append_getElem hi, List.flatMap_append]
        congr 1
        rw [hx0]
        unfold rd_T60
        rw [Int.toNat_natCast, List.getD_eq_getElem?_getD, List.getElem?_eq_getElem hi]; simp
      have hbx : (l0 ++ (enc (l.length : Int) ++ (l.take i).flatMap f)).length + (f x).length ≤ 1000000000000 := by
        have h1 : l.flatMap f = (l.take (i + 1)).flatMap f ++ (l.drop (i + 1)).flatMap f := by rw [← List.flatMap_append, List.take_append_drop]
        have h2 := congrArg List.length h1
        rw [hxs] at h2
        simp only [List.length_append] at h2 ⊢
        have := HBD.out
        omega
      have HXS := Aside0.mk hxs
      have HXM := Aside0.mk hxm
      have HBX := Aside0.mk hbx
      have HIL := Aside0.mk hi
      clear hx0 hxm hxs hbx
      obtain ⟨-, hc7, hC7⟩ := Kd.R_reads' HO.out
      obtain ⟨lx, hlx⟩ : ∃ lx, lx = l0 ++ (enc (l.length : Int) ++ (l.take i).flatMap f) := ⟨_, rfl⟩
      rw [← hlx] at HO HBX hc7 hC7
      have HLX := Aside0.mk hlx
      have HC7 := Aside0.mk hC7
      have HK7 := Aside0.mk hc7
      rw [← hlx]
      clear hlx hC7 hc7
      have HI0 := Aside0.mk hi0
      have HI1 := Aside0.mk hi1
      have HL0 := Aside0.mk hl0
      have HL1 := Aside0.mk hl1
      clear hi0 hi1 hl0 hl1
      go_upto_region 5 with (first | ((with_reducible refine gate_dst (N := 9) rfl ?_); (try (refine gate_guard (by rfl) ?_; dsimp only)); refine box_event ?hg (N := 9) ?hd (cs := #[.slice none 0 0, .slice none 0 0]) (t := 60) ?hr ?_; (case hd => rfl); (case hg => rfl); (case hr => first | (go_simp; done) | (go_simp; rfl)); intro B hg_ w2 hbox_ hb_; have HBE := Aside0.mk hbox_; have HBM := Aside0.mk hg_; have HBD := Aside0.mk hb_; clear hbox_ hg_ hb_; have hq0 := blk_cell HBE.out 0; have hz0 := blk_frozen HBE.out 0; have hq1 := blk_cell HBE.out 1; have hz1 := blk_frozen HBE.out 1))
      have HGB := Aside0.mk (show w.heap.size ≤ B ∧ wr.heap.size ≤ B from ⟨by rw [HBM.out]; exact HB.out.size, by rw [HBM.out]; exact Nat.le_refl _⟩)
      have n1_ := Aside0.mk (R_setB2 (Kd.R_below HO.out HBD.out) HBE.out (by decide) (.slice P0 x.f0.length q0) (.slice P1 x.f1.length q1))
      have n2_ := Aside0.mk (((below_step HB.out HBD.out).setCell (p := ⟨B, 0, none⟩) HGB.out.1 (.slice P0 x.f0.length q0)).setCell (p := ⟨B, 1, none⟩) HGB.out.1 (.slice P1 x.f1.length q1))
      have n3_ := Aside0.mk ((HBD.out.setCell (p := ⟨B, 0, none⟩) HGB.out.2 (.slice P0 x.f0.length q0)).setCell (p := ⟨B, 1, none⟩) HGB.out.2 (.slice P1 x.f1.length q1))
      have n4_ := Aside0.mk (blk_put (cs' := #[.slice P0 x.f0.length q0, .slice P1 x.f1.length q1]) (blk_put (cs' := #[.slice P0 x.f0.length q0, .slice none 0 0]) HBE.out 0 (.slice P0 x.f0.length q0) rfl) 1 (.slice P1 x.f1.length q1) rfl)
      clear HBE HBD hq0 hq1 hz0 hz1 hx hx1 HO
      generalize (w2.setCell ⟨B, 0, none⟩ (.slice P0 x.f0.length q0)).setCell ⟨B, 1, none⟩ (.slice P1 x.f1.length q1) = w3 at n1_ n2_ n3_ n4_ ⊢
      have HB' := HB
      clear HB
      have HB := n2_
      have HO := n1_
      have hq0 := blk_cell n4_.out 0
      have hq1 := blk_cell n4_.out 1
      obtain ⟨-, hc7, hC7⟩ := Kd.R_reads' HO.out
      clear HC7 HK7
      have HC7 := Aside0.mk hC7
      have HK7 := Aside0.mk hc7
      clear hc7 hC7
      go_wp2_with fail
      refine (HF.out x HXM.out _ HB.out A7 c7 lx HC7.out HK7.out HBX.out P0 q0 P1 q1 (Kd.C_below HI0.out n3_.out) HL0.out (Kd.C_below HI1.out n3_.out) HL1.out).mono ?_
      rintro e w4 ⟨v4, rfl, ho, hb⟩
      have HB4 := Aside0.mk (below_step HB.out hb)
      have HO4 := Aside0.mk (Kd.R_lower ho HB.out.size)
      clear ho hb
      go_wp2_with fail
      go_roundg (l.length - i)
      case measure => have := HI.out; omega
      case rel => exact ⟨i + 1, by go_num, ⟨by have := HI.out; omega⟩, ⟨by have h := HO4.out; rw [HLX.out, List.append_assoc, List.append_assoc, ← HXS.out] at h; exact h⟩, HB4⟩
    · have d1 : decide ((i : Int) < (l.length : Int)) = false := decide_eq_false (by omega)
      have HT := Aside0.mk (show l.take i = l from List.take_of_length_le (by omega))
      go_wp2_with fail
      go_ret
      exact ⟨_, rfl, by have h := HO.out; rw [HT.out] at h ⊢; exact h, HB.out⟩

end Go.Proofs.Ytdpigeineephlaa.Nam
namespace Go.Proofs.Ytdpigeineephlaa.Nam
open Go.RowKit Go.Proofs.YtdpigeineephlaaW.PrintWords Go.Proofs.YtdpigeineephlaaW.PrintLast Go.Proofs.YtdpigeineephlaaW.PrintMore Go.Proofs.Ytdpigeineephlaa.Num Go.Proofs.Ytdpigeineephlaa.Prt
set_option linter.unusedVariables false
set_option linter.unusedSimpArgs false

/-- Texts as bytes, with their number. -/
def encL (l : List ByteArray) : List Int := enc (l.length : Int) ++ encTs l
/-- A clause as bytes. -/
def encC (x : S60) : List Int := encL x.f0 ++ encL x.f1
/-- A query as bytes. -/
def encQ (l : List S60) : List Int := enc (l.length : Int) ++ l.flatMap encC
theorem encT_ge (s : ByteArray) : s.size ≤ (encT (bytesOf s)).length := by
  unfold encT
  rw [List.length_append, bytes_length]; omega
theorem strs_calls (A0 : Option Addr) (c0 : Nat) (l0 : List Int) (A : Option Addr) (c : Nat) (l : List ByteArray) (w : World) (hr0 : Kd.C (Kd.int .u8) w A0 l0.length l0) (hc0 : l0.length ≤ c0) (hC : Kd.C Kd.string w A l.length l) (hb : l0.length + (encL l).length ≤ 1000000000000) :
    Calls Try.prog 62 #[.slice A0 l0.length c0, .slice A l.length c, .func (.func 33) #[] #[]] w fun e w' => ∃ v, e = .returned v ∧ Kd.R (Kd.int .u8) 5 w' w.heap.size (fun _ => True) v (l0 ++ encL l) ∧ Below w.heap.size w w' :=
  listStr (fun s => encT (bytesOf s)) 33 A0 c0 l0 A c l w hr0 hc0 hC (by unfold encL encTs at hb; rw [List.length_append] at hb; exact hb) (enters_of Try.func33 (by kernel_rfl) rfl)
    (fun x hx w1 _ A' c' l' h1 h2 h3 => num_PutText.calls A' c' l' x (l' ++ encT (bytesOf x)) w1 h1 h2 (if_pos (by have := encT_ge x; omega)))
def D61.T1 : Bool × List (List Nat × List Nat) := (true, [([], []), ([], []), ([1], [1]), ([0, 2], [0, 2]), ([], []), ([4], [4]), ([3, 5, 3], [3, 5]), ([6, 6, 0, 1, 2, 3, 4, 5, 6], [6])])
def D61.B1 : List Nat := [0, 0, 2, 7, 0, 16, 63, 127]
theorem D61.tab1 : rtab .any (opsOf Try.f61 1) = D61.T1 := by kernel_rfl
theorem D61.bits1 : waitsOk D61.T1.2 D61.B1 = true := by kernel_rfl
theorem put1_calls (A0 : Option Addr) (c0 : Nat) (l0 : List Int) (P0 : Option Addr) (q0 : Nat) (P1 : Option Addr) (q1 : Nat) (x : S60) (w : World) (hr0 : Kd.C (Kd.int .u8) w A0 l0.length l0) (hc0 : l0.length ≤ c0) (h0 : Kd.C Kd.string w P0 x.f0.length x.f0) (h1 : Kd.C Kd.string w P1 x.f1.length x.f1) (hb : l0.length + (encC x).length ≤ 1000000000000) :
    Calls Try.prog 61 #[.slice A0 l0.length c0, .agg #[.slice P0 x.f0.length q0, .slice P1 x.f1.length q1]] w fun e w' => ∃ v, e = .returned v ∧ Kd.R (Kd.int .u8) 5 w' w.heap.size (fun _ => True) v (l0 ++ encC x) ∧ Below w.heap.size w w' := by
  have hu60 := Try.underlying60
  have HR := Aside0.mk hr0
  have HK := Aside0.mk hc0
  have H0 := Aside0.mk h0
  have H1 := Aside0.mk h1
  have HL1 := Aside0.mk (show l0.length + (encL x.f0).length ≤ 1000000000000 by unfold encC at hb; rw [List.length_append] at hb; omega)
  have HL2 := Aside0.mk (show (l0 ++ encL x.f0).length + (encL x.f1).length ≤ 1000000000000 by unfold encC at hb; rw [List.length_append] at hb ⊢; omega)
  clear hr0 hc0 h0 h1 hb
  go_enter Try.func61, Try.ntmps61
  go_upto_region 1 with (first | ((with_reducible refine gate_dst (N := 3) rfl ?_); (try (refine gate_guard (by rfl) ?_; dsimp only)); refine box_event ?hg (N := 3) ?hd (cs := #[.slice P0 x.f0.length q0, .slice P1 x.f1.length q1]) (t := 60) ?hr ?_; (case hd => rfl); (case hg => rfl); (case hr => first | (go_simp; done) | (go_simp; rfl)); intro g hg_ w2 hbox_ hb_; have HBX := Aside0.mk hbox_; have HBN := Aside0.mk hg_; have HBB := Aside0.mk hb_; clear hbox_ hg_ hb_))
  go_wp2_with fail
  have n1_ := Aside0.mk (blk_drew HBX.out)
  have n2_ := Aside0.mk (below_drew1 HBB.out)
  clear HBX HBB
  have HX := n1_
  have HB := n2_
  clear n1_ n2_
  refine start_ (n := 8) (S := fun w' => w'.cell? ⟨g, 0, none⟩ = some (.slice P0 x.f0.length q0) ∧ w'.cell? ⟨g, 1, none⟩ = some (.slice P1 x.f1.length q1)) (ds := []) #[false, false, false, false, false, false, false, false] (by kernel_rfl) rfl rfl ⟨(blk_cell HX.out 0).trans rfl, (blk_cell HX.out 1).trans rfl⟩ (fun hHeld => ?_); refine with_tabW D61.tab1 D61.bits1 (fun HT_ HW_ => ?_)
  generalize World.drew _ = w3 at HX HB hHeld ⊢
  refine pure_ (i := 0) (N := some 5) (v := ?_) (a' := ?_) #[true, false, false, false, false, false, false, false] rfl rfl (any_of HT_.out (by kernel_rfl)) (fun _ _ _ h => h) (Or.inl ⟨by rfl, ?_⟩) ?_ ?_
  rotate_left
  · intro w'
    go_simp
    with_reducible rfl
  rotate_left
  · simp only [Act.put, List.setIfInBounds_toArray, List.set_cons_zero, List.set_cons_succ, i64_w, i32_w]
    rfl
  refine pure_ (i := 1) (N := some 6) (v := ?_) (a' := ?_) #[true, true, false, false, false, false, false, false] rfl rfl (any_of HT_.out (by kernel_rfl)) (fun _ _ _ h => h) (Or.inl ⟨by rfl, ?_⟩) ?_ ?_
  rotate_left
  · intro w'
    go_simp
    with_reducible rfl
  rotate_left
  · simp only [Act.put, List.setIfInBounds_toArray, List.set_cons_zero, List.set_cons_succ, i64_w, i32_w]
    rfl
  refine take_ (i := 2) (N := some 7) (v := ?_) (a' := ?_) #[true, true, true, false, false, false, false, false] rfl rfl (take_ofW HT_.out HW_.out (by kernel_rfl)) (fun _ _ _ h => h) (Or.inl ⟨by rfl, ?_⟩) hHeld ?_ ?_
  rotate_left
  · rintro w' ⟨s0, s1⟩
    go_simp
    with_reducible rfl
  rotate_left
  · simp only [Act.put, List.setIfInBounds_toArray, List.set_cons_zero, List.set_cons_succ, i64_w, i32_w]
    rfl
  refine pure_ (i := 4) (N := some 9) (v := ?_) (a' := ?_) #[true, true, true, false, true, false, false, false] rfl rfl (any_of HT_.out (by kernel_rfl)) (fun _ _ _ h => h) (Or.inl ⟨by rfl, ?_⟩) ?_ ?_
  rotate_left
  · intro w'
    go_simp
    with_reducible rfl
  rotate_left
  · simp only [Act.put, List.setIfInBounds_toArray, List.set_cons_zero, List.set_cons_succ, i64_w, i32_w]
    rfl
  refine take_ (i := 5) (N := some 10) (v := ?_) (a' := ?_) #[true, true, true, false, true, true, false, false] rfl rfl (take_ofW HT_.out HW_.out (by kernel_rfl)) (fun _ _ _ h => h) (Or.inl ⟨by rfl, ?_⟩) hHeld ?_ ?_
  rotate_left
  · rintro w' ⟨s0, s1⟩
    go_simp
    with_reducible rfl
  rotate_left
  · simp only [Act.put, List.setIfInBounds_toArray, List.set_cons_zero, List.set_cons_succ, i64_w, i32_w]
    rfl
  refine one_ (i := 3) (N := some 8) #[true, true, true, true, true, true, false, false] rfl rfl (one_of HT_.out (by kernel_rfl)) (by decide) (fun K hK => ?_)
  refine goes_ Try.func62 (by kernel_rfl) rfl #[.slice A0 l0.length c0, .slice P0 x.f0.length q0, .func (.func 33) #[] #[]] (by rfl) rfl rfl (by (try simp only [List.map_toArray, List.map_cons, List.map_nil]); first | done | rfl) ?_
  with_reducible refine (strs_calls A0 c0 l0 P0 q0 x.f0 w3 (Kd.C_below HR.out HB.out) HK.out (Kd.C_below H0.out HB.out) HL1.out).mono ?_
  rintro e w4 ⟨v4, rfl, ho, hb⟩
  refine ⟨_, rfl, ?_⟩
  obtain ⟨A4, c4, e4⟩ := Kd.R_slice ho
  subst e4
  obtain ⟨-, hc4, hC4⟩ := Kd.R_reads' ho
  have HC4 := Aside0.mk hC4
  have HK4 := Aside0.mk hc4
  have n1_ := Aside0.mk (blk_below HX.out hb)
  have n2_ := Aside0.mk (below_step HB.out hb)
  clear HX HB ho hb hc4 hC4
  have HX := n1_
  have HB := n2_
  clear n1_ n2_
  refine hK.out _ _ ⟨(blk_cell HX.out 0).trans rfl, (blk_cell HX.out 1).trans rfl⟩ (fun hHeld => ?_)
  clear hK K
  refine norm_ (a' := ?_) ?_ ?_
  rotate_left
  · show Act.put _ (some 8) _ = _
    simp only [Act.put, List.setIfInBounds_toArray, List.set_cons_zero, List.set_cons_succ, i64_w, i32_w]
    rfl
  refine one_ (i := 6) (N := some 11) #[true, true, true, true, true, true, true, false] rfl rfl (one_of HT_.out (by kernel_rfl)) (by decide) (fun K hK => ?_)
  refine goes_ Try.func62 (by kernel_rfl) rfl #[.slice A4 (l0 ++ encL x.f0).length c4, .slice P1 x.f1.length q1, .func (.func 33) #[] #[]] (by rfl) rfl rfl (by (try simp only [List.map_toArray, List.map_cons, List.map_nil]); first | done | rfl) ?_
  with_reducible refine (strs_calls A4 c4 (l0 ++ encL x.f0) P1 q1 x.f1 w4 HC4.out HK4.out (Kd.C_below H1.out HB.out) HL2.out).mono ?_
  rintro e w5 ⟨v5, rfl, ho, hb⟩
  refine ⟨_, rfl, ?_⟩
  have HO5 := Aside0.mk (Kd.R_lower ho HB.out.size)
  have n1_ := Aside0.mk (blk_below HX.out hb)
  have n2_ := Aside0.mk (below_step HB.out hb)
  clear HX HB ho hb
  have HX := n1_
  have HB := n2_
  clear n1_ n2_
  refine hK.out _ _ ⟨(blk_cell HX.out 0).trans rfl, (blk_cell HX.out 1).trans rfl⟩ (fun hHeld => ?_)
  clear hK K
  refine norm_ (a' := ?_) ?_ ?_
  rotate_left
  · show Act.put _ (some 11) _ = _
    simp only [Act.put, List.setIfInBounds_toArray, List.set_cons_zero, List.set_cons_succ, i64_w, i32_w]
    rfl
  refine pure_ (i := 7) (N := some 4) (v := ?_) (a' := ?_) #[true, true, true, true, true, true, true, true] rfl rfl (any_of HT_.out (by kernel_rfl)) (fun _ _ _ h => h) (Or.inl ⟨by rfl, ?_⟩) ?_ ?_
  rotate_left
  · intro w'
    go_simp
    with_reducible rfl
  rotate_left
  · simp only [Act.put, List.setIfInBounds_toArray, List.set_cons_zero, List.set_cons_succ, i64_w, i32_w]
    rfl
  refine done_ (by kernel_rfl) ?_
  clear HT_ HW_ hHeld
  go_wp2_with fail
  go_ret
  exact ⟨_, rfl, by have h := HO5.out; rw [List.append_assoc] at h; exact h, HB.out⟩
theorem put_calls7 (A0 : Option Addr) (c0 : Nat) (l0 : List Int) (A : Option Addr) (c : Nat) (l : List S60) (w : World) (hr0 : Kd.C (Kd.int .u8) w A0 l0.length l0) (hc0 : l0.length ≤ c0) (hC : Kd.C k60 w A l.length l) (hb : l0.length + (encQ l).length ≤ 1000000000000) :
    Calls Try.prog 27 #[.slice A0 l0.length c0, .agg #[.slice A l.length c]] w fun e w' => ∃ v, e = .returned v ∧ Kd.R (Kd.int .u8) 5 w' w.heap.size (fun _ => True) v (l0 ++ encQ l) ∧ Below w.heap.size w w' := by
  have hu25 := Try.underlying25
  have HR := Aside0.mk hr0
  have HK := Aside0.mk hc0
  have HC := Aside0.mk hC
  have HL := Aside0.mk (show l0.length + ((enc (l.length : Int)).length + (l.flatMap encC).length) ≤ 1000000000000 by unfold encQ at hb; rw [List.length_append] at hb; exact hb)
  clear hr0 hc0 hC hb
  go_enter Try.func27, Try.ntmps27
  go_wp2_with (first | ((with_reducible refine gate_dst (N := 3) rfl ?_); (try (refine gate_guard (by rfl) ?_; dsimp only)); refine box_event ?hg (N := 3) ?hd (cs := #[.slice A l.length c]) (t := 25) ?hr ?_; (case hd => rfl); (case hg => rfl); (case hr => first | (go_simp; done) | (go_simp; rfl)); intro g hg_ w2 hbox_ hb_; have HBX := Aside0.mk hbox_; have HBN := Aside0.mk hg_; have HBB := Aside0.mk hb_; clear hbox_ hg_ hb_; have hc0 := blk_cell HBX.out 0; have hf0 := blk_frozen HBX.out 0))
  refine (listCla encC 61 A0 c0 l0 A c l w2 (Kd.C_below HR.out HBB.out) HK.out (Kd.C_below HC.out HBB.out) HL.out (enters_of Try.func61 (by kernel_rfl) rfl) (fun x hx w1 _ A' c' l' h1 h2 h3 P0 q0 P1 q1 g0 _ g1 _ => put1_calls A' c' l' P0 q0 P1 q1 x w1 h1 h2 g0 g1 h3)).mono ?_
  rintro e w3 ⟨v, rfl, ho, hb⟩
  have HO := Aside0.mk (Kd.R_lower ho HBB.out.size)
  have HB := Aside0.mk (below_step HBB.out hb)
  clear ho hb
  go_wp2_with fail
  go_ret
  exact ⟨_, rfl, HO.out, HB.out⟩
end Go.Proofs.Ytdpigeineephlaa.Nam
namespace Go.Proofs.Ytdpigeineephlaa.Prt
open Go.RowKit Go.Proofs.YtdpigeineephlaaW.PrintWords Go.Proofs.YtdpigeineephlaaW.PrintLast Go.Proofs.YtdpigeineephlaaW.PrintMore Go.Proofs.Ytdpigeineephlaa.Num Go.Proofs.Ytdpigeineephlaa.Nam
set_option linter.unusedVariables false
set_option linter.unusedSimpArgs false
def qcode_put.f (l0 : List Int) (l1_0 : List S60) : Option (List Int) := if l0.length + (encQ l1_0).length ≤ 1000000000000 then some (l0 ++ encQ l1_0) else none
theorem qcode_put.calls (A0 : Option Addr) (c0 : Nat) (l0 : List Int) (A1_0 : Option Addr) (c1_0 : Nat) (l1_0 : List (S60)) (r : List Int) (w : World) (hr0 : Kd.C (Kd.int .u8) w A0 l0.length l0) (hc0 : l0.length ≤ c0) (hr1_0 : Kd.C k60 w A1_0 l1_0.length l1_0) (hc1_0 : l1_0.length ≤ c1_0) (h : qcode_put.f l0 l1_0 = some r) :
    Calls Try.prog 27 #[.slice A0 l0.length c0, .agg #[.slice A1_0 l1_0.length c1_0]] w fun e w' => ∃ v0_ : Value, e = .returned (v0_) ∧ Kd.R (Kd.int .u8) 5 w' w.heap.size (fun _ => True) v0_ r ∧ Below w.heap.size w w' := by
  unfold qcode_put.f at h
  by_cases hc : l0.length + (encQ l1_0).length ≤ 1000000000000
  · rw [if_pos hc] at h
    obtain rfl := Option.some.inj h
    exact put_calls7 A0 c0 l0 A1_0 c1_0 l1_0 w hr0 hc0 hr1_0 hc
  · rw [if_neg hc] at h; cases h
end Go.Proofs.Ytdpigeineephlaa.Prt
namespace Go.Proofs.Ytdpigeineephlaa.Prt
open Go.RowKit Go.Proofs.YtdpigeineephlaaW.PrintWords Go.Proofs.YtdpigeineephlaaW.PrintLast Go.Proofs.YtdpigeineephlaaW.PrintMore Go.Proofs.Ytdpigeineephlaa.Num Go.Proofs.Ytdpigeineephlaa.Nam
set_option linter.unusedVariables false
set_option linter.unusedSimpArgs false

def name_May.f (a0 : ByteArray) : Option (Bool) := if a0.size ≤ 9223372036854775807 then some (mayL (bytesOf a0)) else none
theorem name_May.calls (a0 : ByteArray) (r : Bool) (w : World) (h : name_May.f a0 = some r) :
    Calls Try.prog 36 #[.string a0] w fun e w' => e = .returned (.bool r) ∧ Below w.heap.size w w' := by
  unfold name_May.f at h
  by_cases hc : a0.size ≤ 9223372036854775807
  · rw [if_pos hc] at h
    obtain rfl := Option.some.inj h
    exact may_calls a0 w hc
  · rw [if_neg hc] at h; cases h
def name_MayTag.f (a0 : ByteArray) : Option (Bool) := if a0.size ≤ 9223372036854775807 then some (tagB a0) else none
theorem name_MayTag.calls (a0 : ByteArray) (r : Bool) (w : World) (h : name_MayTag.f a0 = some r) :
    Calls Try.prog 55 #[.string a0] w fun e w' => e = .returned (.bool r) ∧ Below w.heap.size w w' := by
  unfold name_MayTag.f at h
  by_cases hc : a0.size ≤ 9223372036854775807
  · rw [if_pos hc] at h
    obtain rfl := Option.some.inj h
    exact mayTag_calls a0 w hc
  · rw [if_neg hc] at h; cases h
end Go.Proofs.Ytdpigeineephlaa.Prt
namespace Go.Proofs.Ytdpigeineephlaa.Prt
open Go.RowKit Go.Proofs.YtdpigeineephlaaW.PrintWords Go.Proofs.YtdpigeineephlaaW.PrintLast Go.Proofs.YtdpigeineephlaaW.PrintMore
attribute [local go_sem] max2_int min2_int max_two min_two max_three min_three max_four min_four   -- for this text's walks alone
set_option linter.unusedVariables false
set_option linter.unusedSimpArgs false

def query_May_1.f (l0_0 : List ByteArray) (l0_1 : List ByteArray) : Option (Bool) := if (l0_0.length : Int) > 4 then (some true) else (some (decide ((l0_1.length : Int) > 4)))
set_option maxHeartbeats 8000000 in
set_option maxRecDepth 100000 in
theorem query_May_1.calls (A0_0 : Option Addr) (c0_0 : Nat) (l0_0 : List ByteArray) (A0_1 : Option Addr) (c0_1 : Nat) (l0_1 : List ByteArray) (r : Bool) (w : World) (hr0_0 : Kd.C Kd.string w A0_0 l0_0.length l0_0) (hc0_0 : l0_0.length ≤ c0_0) (hr0_1 : Kd.C Kd.string w A0_1 l0_1.length l0_1) (hc0_1 : l0_1.length ≤ c0_1) (h : query_May_1.f l0_0 l0_1 = some r) :
    Calls Try.prog 51 #[.agg #[.slice A0_0 l0_0.length c0_0, .slice A0_1 l0_1.length c0_1]] w fun e w' => e = .returned (.bool r) ∧ Below w.heap.size w w' := by
  have hu60 := Try.underlying60
  have HR0_0 := Aside0.mk hr0_0
  have HC0_0 := Aside0.mk hc0_0
  clear hr0_0 hc0_0
  have HR0_1 := Aside0.mk hr0_1
  have HC0_1 := Aside0.mk hc0_1
  clear hr0_1 hc0_1
  have HB := Aside0.mk (Below.refl w.heap.size w)
  have H : (if (l0_0.length : Int) > 4 then (some true) else (some (decide ((l0_1.length : Int) > 4)))) = some r := h
  clear h
  by_cases c2 : (l0_0.length : Int) > 4
  · rw [if_pos c2] at H
    have c2b0 : decide (4 < (l0_0.length : Int)) = true := decide_eq_true c2
    have c2b1 : decide (4 < l0_0.length) = true := decide_eq_true (by omega)
    clear c2
    obtain rfl := Option.some.inj H
    go_enter Try.func51, Try.ntmps51
    go_wp2_with (first | ((with_reducible refine gate_dst (N := 1) rfl ?_); (try (refine gate_guard (by rfl) ?_; dsimp only)); refine box_event ?hg (N := 1) ?hd (cs := #[.slice A0_0 l0_0.length c0_0, .slice A0_1 l0_1.length c0_1]) (t := 60) ?hr ?_; (case hd => rfl); (case hg => rfl); (case hr => first | (go_simp; done) | (go_simp; rfl)); intro gb101 hg w3 hbox hb; have n0_ := Aside0.mk (below_step (by repeat (first | (with_reducible first | exact HB.out | apply below_alloc | apply pw_below_drewN | apply below_drew1) | exact HB.out)) hb); have n1_ := Aside0.mk (hbox); have n2_ := Aside0.mk ((by rw [hg]; exact (below_size (by repeat (first | (with_reducible first | exact HB.out | apply below_alloc | apply pw_below_drewN | apply below_drew1) | exact HB.out))) : w.heap.size ≤ gb101)); have n3_ := Aside0.mk ((by rw [hg]; exact (below_size (by repeat (first | (with_reducible first | exact HB.out | apply below_alloc | apply pw_below_drewN | apply below_drew1) | exact HB.out))) : w.heap.size ≤ gb101)); clear HB; have HB := n0_; have BK101 := n1_; have GW101 := n2_; have GE101 := n3_; clear n0_ n1_ n2_ n3_; clear hb hbox hg; have hcz4_0 : w3.cell? ⟨gb101, 0, none⟩ = some (.slice A0_0 l0_0.length c0_0) := (blk_cell BK101.out 0).trans rfl; have hcz4_1 : w3.cell? ⟨gb101, 1, none⟩ = some (.slice A0_1 l0_1.length c0_1) := (blk_cell BK101.out 1).trans rfl; have hfz4_0 := blk_frozen BK101.out 0; have hfz4_1 := blk_frozen BK101.out 1))
    go_ret
    exact ⟨by first | rfl | (simp [errW_none, errW_some] <;> rfl) | (simp [*, errW_none, errW_some] <;> rfl), by repeat (first | (with_reducible first | exact HB.out | apply below_alloc | apply pw_below_drewN | apply below_drew1 | refine below_set ?_ GE101.out) | exact HB.out)⟩
  · rw [if_neg c2] at H
    have c2b0 : decide (4 < (l0_0.length : Int)) = false := decide_eq_false c2
    have c2b1 : decide (4 < l0_0.length) = false := decide_eq_false (by omega)
    clear c2
    obtain rfl := Option.some.inj H
    go_enter Try.func51, Try.ntmps51
    go_wp2_with (first | ((with_reducible refine gate_dst (N := 1) rfl ?_); (try (refine gate_guard (by rfl) ?_; dsimp only)); refine box_event ?hg (N := 1) ?hd (cs := #[.slice A0_0 l0_0.length c0_0, .slice A0_1 l0_1.length c0_1]) (t := 60) ?hr ?_; (case hd => rfl); (case hg => rfl); (case hr => first | (go_simp; done) | (go_simp; rfl)); intro gb101 hg w5 hbox hb; have n0_ := Aside0.mk (below_step (by repeat (first | (with_reducible first | exact HB.out | apply below_alloc | apply pw_below_drewN | apply below_drew1) | exact HB.out)) hb); have n1_ := Aside0.mk (hbox); have n2_ := Aside0.mk ((by rw [hg]; exact (below_size (by repeat (first | (with_reducible first | exact HB.out | apply below_alloc | apply pw_below_drewN | apply below_drew1) | exact HB.out))) : w.heap.size ≤ gb101)); have n3_ := Aside0.mk ((by rw [hg]; exact (below_size (by repeat (first | (with_reducible first | exact HB.out | apply below_alloc | apply pw_below_drewN | apply below_drew1) | exact HB.out))) : w.heap.size ≤ gb101)); clear HB; have HB := n0_; have BK101 := n1_; have GW101 := n2_; have GE101 := n3_; clear n0_ n1_ n2_ n3_; clear hb hbox hg; have hcz6_0 : w5.cell? ⟨gb101, 0, none⟩ = some (.slice A0_0 l0_0.length c0_0) := (blk_cell BK101.out 0).trans rfl; have hcz6_1 : w5.cell? ⟨gb101, 1, none⟩ = some (.slice A0_1 l0_1.length c0_1) := (blk_cell BK101.out 1).trans rfl; have hfz6_0 := blk_frozen BK101.out 0; have hfz6_1 := blk_frozen BK101.out 1))
    go_ret
    exact ⟨by first | rfl | (simp [errW_none, errW_some] <;> rfl) | (simp [*, errW_none, errW_some] <;> rfl), by repeat (first | (with_reducible first | exact HB.out | apply below_alloc | apply pw_below_drewN | apply below_drew1 | refine below_set ?_ GE101.out) | exact HB.out)⟩

end Go.Proofs.Ytdpigeineephlaa.Prt
namespace Go.Proofs.Ytdpigeineephlaa.Prt
open Go.RowKit Go.Proofs.YtdpigeineephlaaW.PrintWords Go.Proofs.YtdpigeineephlaaW.PrintLast Go.Proofs.YtdpigeineephlaaW.PrintMore
attribute [local go_sem] max2_int min2_int max_two min_two max_three min_three max_four min_four   -- for this text's walks alone
set_option linter.unusedVariables false
set_option linter.unusedSimpArgs false

def query_May_2_1.f (a0 : ByteArray) : Option (Bool) := (name_MayTag.f a0).bind fun t102 => (some (!t102))
set_option maxHeartbeats 8000000 in
set_option maxRecDepth 100000 in
theorem query_May_2_1.calls (a0 : ByteArray) (r : Bool) (w : World) (h : query_May_2_1.f a0 = some r) :
    Calls Try.prog 54 #[.string a0] w fun e w' => e = .returned (.bool r) ∧ Below w.heap.size w w' := by
  have HB := Aside0.mk (Below.refl w.heap.size w)
  have H : ((name_MayTag.f a0).bind fun t102 => (some (!t102))) = some r := h
  clear h
  replace H := Option.bind_eq_some_iff.mp H
  obtain ⟨t102, A20, H⟩ := H
  replace H : (some (!t102)) = some r := H
  have A2 := Aside0.mk A20
  clear A20
  obtain rfl := Option.some.inj H
  go_enter Try.func54, Try.ntmps54
  go_wp2_with (first | ((with_reducible refine gate_callee (f := 55) rfl ?_); refine goesL_ (some 4) rfl rfl Try.func55 (by kernel_rfl) rfl #[.string a0] rfl (by (try simp only [List.map_toArray, List.map_cons, List.map_nil]); first | done | rfl | (simp only [List.length_drop, List.length_take]; rfl)) ?_; (with_reducible refine (name_MayTag.calls a0 t102 _ A2.out).mono ?_); rintro e w3 ⟨rfl, hb⟩; refine ⟨_, rfl, ?_⟩; have n0_ := Aside0.mk (below_step (by repeat (first | (with_reducible first | exact HB.out | apply below_alloc | apply pw_below_drewN | apply below_drew1) | exact HB.out)) hb); clear HB; have HB := n0_; clear n0_; (try clear hb); (try clear hb2); (try clear hk); (try clear hi)))
  go_ret
  exact ⟨by first | rfl | (simp [errW_none, errW_some] <;> rfl) | (simp [*, errW_none, errW_some] <;> rfl), by repeat (first | (with_reducible first | exact HB.out | apply below_alloc | apply pw_below_drewN | apply below_drew1) | exact HB.out)⟩

end Go.Proofs.Ytdpigeineephlaa.Prt
namespace Go.Proofs.Ytdpigeineephlaa.Prt
open Go.RowKit Go.Proofs.YtdpigeineephlaaW.PrintWords Go.Proofs.YtdpigeineephlaaW.PrintLast Go.Proofs.YtdpigeineephlaaW.PrintMore
attribute [local go_sem] max2_int min2_int max_two min_two max_three min_three max_four min_four   -- for this text's walks alone
set_option linter.unusedVariables false
set_option linter.unusedSimpArgs false

def query_May_2_2.f (a0 : ByteArray) : Option (Bool) := (name_May.f a0).bind fun t103 => (some (!t103))
set_option maxHeartbeats 8000000 in
set_option maxRecDepth 100000 in
theorem query_May_2_2.calls (a0 : ByteArray) (r : Bool) (w : World) (h : query_May_2_2.f a0 = some r) :
    Calls Try.prog 56 #[.string a0] w fun e w' => e = .returned (.bool r) ∧ Below w.heap.size w w' := by
  have HB := Aside0.mk (Below.refl w.heap.size w)
  have H : ((name_May.f a0).bind fun t103 => (some (!t103))) = some r := h
  clear h
  replace H := Option.bind_eq_some_iff.mp H
  obtain ⟨t103, A20, H⟩ := H
  replace H : (some (!t103)) = some r := H
  have A2 := Aside0.mk A20
  clear A20
  obtain rfl := Option.some.inj H
  go_enter Try.func56, Try.ntmps56
  go_wp2_with (first | ((with_reducible refine gate_callee (f := 36) rfl ?_); refine goesL_ (some 4) rfl rfl Try.func36 (by kernel_rfl) rfl #[.string a0] rfl (by (try simp only [List.map_toArray, List.map_cons, List.map_nil]); first | done | rfl | (simp only [List.length_drop, List.length_take]; rfl)) ?_; (with_reducible refine (name_May.calls a0 t103 _ A2.out).mono ?_); rintro e w3 ⟨rfl, hb⟩; refine ⟨_, rfl, ?_⟩; have n0_ := Aside0.mk (below_step (by repeat (first | (with_reducible first | exact HB.out | apply below_alloc | apply pw_below_drewN | apply below_drew1) | exact HB.out)) hb); clear HB; have HB := n0_; clear n0_; (try clear hb); (try clear hb2); (try clear hk); (try clear hi)))
  go_ret
  exact ⟨by first | rfl | (simp [errW_none, errW_some] <;> rfl) | (simp [*, errW_none, errW_some] <;> rfl), by repeat (first | (with_reducible first | exact HB.out | apply below_alloc | apply pw_below_drewN | apply below_drew1) | exact HB.out)⟩

end Go.Proofs.Ytdpigeineephlaa.Prt
namespace Go.Proofs.Ytdpigeineephlaa.Prt
open Go.RowKit Go.Proofs.YtdpigeineephlaaW.PrintWords Go.Proofs.YtdpigeineephlaaW.PrintLast Go.Proofs.YtdpigeineephlaaW.PrintMore
attribute [local go_sem] max2_int min2_int max_two min_two max_three min_three max_four min_four   -- for this text's walks alone
set_option linter.unusedVariables false
set_option linter.unusedSimpArgs false

def cmp_isNaN_string.f (a0 : ByteArray) : Option (Bool) := some (a0.toList != a0.toList)
set_option maxHeartbeats 8000000 in
set_option maxRecDepth 100000 in
theorem cmp_isNaN_string.calls (a0 : ByteArray) (r : Bool) (w : World) (h : cmp_isNaN_string.f a0 = some r) :
    Calls Try.prog 84 #[.string a0] w fun e w' => e = .returned (.bool r) ∧ Drawn0 w w' := by
  have H : (some (a0.toList != a0.toList)) = some r := h
  clear h
  obtain rfl := Option.some.inj H
  go_enter Try.func84, Try.ntmps84
  go_wp2
  go_ret
  exact ⟨by first | rfl | (simp; done) | (simp [*]; done), by repeat (first | exact Drawn0.refl _ | apply Drawn0.step)⟩

end Go.Proofs.Ytdpigeineephlaa.Prt
namespace Go.Proofs.Ytdpigeineephlaa.Prt
open Go.RowKit Go.Proofs.YtdpigeineephlaaW.PrintWords Go.Proofs.YtdpigeineephlaaW.PrintLast Go.Proofs.YtdpigeineephlaaW.PrintMore
attribute [local go_sem] max2_int min2_int max_two min_two max_three min_three max_four min_four   -- for this text's walks alone
set_option linter.unusedVariables false
set_option linter.unusedSimpArgs false

def cmp_Less_string.f (a0 : ByteArray) (a1 : ByteArray) : Option (Bool) := (cmp_isNaN_string.f a0).bind fun t104 => (if t104 = true then ((cmp_isNaN_string.f a1).bind fun t105 => (if t105 = true then (some (Op.bytesLess a0.toList a1.toList)) else (some true))) else (some (Op.bytesLess a0.toList a1.toList)))
set_option maxHeartbeats 8000000 in
set_option maxRecDepth 100000 in
theorem cmp_Less_string.calls (a0 : ByteArray) (a1 : ByteArray) (r : Bool) (w : World) (h : cmp_Less_string.f a0 a1 = some r) :
    Calls Try.prog 82 #[.string a0, .string a1] w fun e w' => e = .returned (.bool r) ∧ Drawn0 w w' := by
  have H : ((cmp_isNaN_string.f a0).bind fun t104 => (if t104 = true then ((cmp_isNaN_string.f a1).bind fun t105 => (if t105 = true then (some (Op.bytesLess a0.toList a1.toList)) else (some true))) else (some (Op.bytesLess a0.toList a1.toList)))) = some r := h
  clear h
  replace H := Option.bind_eq_some_iff.mp H
  obtain ⟨t104, A30, H⟩ := H
  replace H : (if t104 = true then ((cmp_isNaN_string.f a1).bind fun t105 => (if t105 = true then (some (Op.bytesLess a0.toList a1.toList)) else (some true))) else (some (Op.bytesLess a0.toList a1.toList))) = some r := H
  have A3 := Aside0.mk A30
  clear A30
  by_cases c4 : t104 = true
  · subst c4
    have H1 : ((cmp_isNaN_string.f a1).bind fun t105 => (if t105 = true then (some (Op.bytesLess a0.toList a1.toList)) else (some true))) = some r := by rw [if_pos rfl] at H; exact H
    clear H
    have H := H1
    clear H1
    replace H := Option.bind_eq_some_iff.mp H
    obtain ⟨t105, A50, H⟩ := H
    replace H : (if t105 = true then (some (Op.bytesLess a0.toList a1.toList)) else (some true)) = some r := H
    have A5 := Aside0.mk A50
    clear A50
    by_cases c6 : t105 = true
    · subst c6
      have H1 : (some (Op.bytesLess a0.toList a1.toList)) = some r := by rw [if_pos rfl] at H; exact H
      clear H
      have H := H1
      clear H1
      obtain rfl := Option.some.inj H
      go_enter Try.func82, Try.ntmps82
      go_wp2_with (first | ((with_reducible refine gate_callee (f := 84) rfl ?_); refine goesL_ (some 6) rfl rfl Try.func84 (by kernel_rfl) rfl #[.string a0] rfl (by (try simp only [List.map_toArray, List.map_cons, List.map_nil]); first | done | rfl | (simp only [List.length_drop, List.length_take]; rfl)) ?_; (with_reducible refine (cmp_isNaN_string.calls a0 true _ A3.out).mono ?_); rintro e w' ⟨rfl, ⟨nd, rfl⟩⟩; refine ⟨_, rfl, ?_⟩) | (go_at_call 84; (with_reducible refine (cmp_isNaN_string.calls a1 true _ A5.out).mono ?_); rintro e w' ⟨rfl, ⟨nd, rfl⟩⟩))
      go_ret
      exact ⟨by first | rfl | (simp; done) | (simp [*]; done), by repeat (first | exact Drawn0.refl _ | apply Drawn0.step)⟩
    · replace c6 := Bool.eq_false_iff.mpr c6
      subst c6
      have H1 : (some true) = some r := by rw [if_neg (show ¬ (false = true) by decide)] at H; exact H
      clear H
      have H := H1
      clear H1
      obtain rfl := Option.some.inj H
      go_enter Try.func82, Try.ntmps82
      go_wp2_with (first | ((with_reducible refine gate_callee (f := 84) rfl ?_); refine goesL_ (some 6) rfl rfl Try.func84 (by kernel_rfl) rfl #[.string a0] rfl (by (try simp only [List.map_toArray, List.map_cons, List.map_nil]); first | done | rfl | (simp only [List.length_drop, List.length_take]; rfl)) ?_; (with_reducible refine (cmp_isNaN_string.calls a0 true _ A3.out).mono ?_); rintro e w' ⟨rfl, ⟨nd, rfl⟩⟩; refine ⟨_, rfl, ?_⟩) | (go_at_call 84; (with_reducible refine (cmp_isNaN_string.calls a1 false _ A5.out).mono ?_); rintro e w' ⟨rfl, ⟨nd, rfl⟩⟩))
      go_ret
      exact ⟨by first | rfl | (simp; done) | (simp [*]; done), by repeat (first | exact Drawn0.refl _ | apply Drawn0.step)⟩
  · replace c4 := Bool.eq_false_iff.mpr c4
    subst c4
    have H1 : (some (Op.bytesLess a0.toList a1.toList)) = some r := by rw [if_neg (show ¬ (false = true) by decide)] at H; exact H
    clear H
    have H := H1
    clear H1
    obtain rfl := Option.some.inj H
    go_enter Try.func82, Try.ntmps82
    go_wp2_with (first | ((with_reducible refine gate_callee (f := 84) rfl ?_); refine goesL_ (some 6) rfl rfl Try.func84 (by kernel_rfl) rfl #[.string a0] rfl (by (try simp only [List.map_toArray, List.map_cons, List.map_nil]); first | done | rfl | (simp only [List.length_drop, List.length_take]; rfl)) ?_; (with_reducible refine (cmp_isNaN_string.calls a0 false _ A3.out).mono ?_); rintro e w' ⟨rfl, ⟨nd, rfl⟩⟩; refine ⟨_, rfl, ?_⟩))
    go_ret
    exact ⟨by first | rfl | (simp; done) | (simp [*]; done), by repeat (first | exact Drawn0.refl _ | apply Drawn0.step)⟩

end Go.Proofs.Ytdpigeineephlaa.Prt
namespace Go.Proofs.Ytdpigeineephlaa.Prt
open Go.RowKit Go.Proofs.YtdpigeineephlaaW.PrintWords Go.Proofs.YtdpigeineephlaaW.PrintLast Go.Proofs.YtdpigeineephlaaW.PrintMore
attribute [local go_sem] max2_int min2_int max_two min_two max_three min_three max_four min_four   -- for this text's walks alone
set_option linter.unusedVariables false
set_option linter.unusedSimpArgs false

def slices_IsSorted_string_string.l0 : Nat → List ByteArray → Int → Option (Bool)
  | 0, _, _ => none
  | k + 1, x0, x3 => if x3 > 0 then (if 0 ≤ x3 then (if x3 < (x0.length : Int) then (if 0 ≤ (wrap64 (x3 - 1)) then (if (wrap64 (x3 - 1)) < (x0.length : Int) then ((cmp_Less_string.f (rdOf ByteArray.empty x0 x3) (rdOf ByteArray.empty x0 (wrap64 (x3 - 1)))).bind fun t108 => (if t108 = true then (some false) else (slices_IsSorted_string_string.l0 k x0 (wrap64 (x3 - 1))))) else (none)) else (none)) else (none)) else (none)) else (some true)
def slices_IsSorted_string_string.f (k : Nat) (l0 : List ByteArray) : Option (Bool) := slices_IsSorted_string_string.l0 k l0 (wrap64 ((l0.length : Int) - 1))
set_option maxHeartbeats 8000000 in
set_option maxRecDepth 100000 in
theorem slices_IsSorted_string_string.calls (k : Nat) (A0 : Option Addr) (c0 : Nat) (l0 : List ByteArray) (r : Bool) (w : World) (hr0 : Kd.C Kd.string w A0 l0.length l0) (hc0 : l0.length ≤ c0) (h : slices_IsSorted_string_string.f k l0 = some r) :
    Calls Try.prog 74 #[.slice A0 l0.length c0] w fun e w' => e = .returned (.bool r) ∧ Drawn0 w w' := by
  have HR0 := Aside0.mk hr0
  have HC0 := Aside0.mk hc0
  clear hr0 hc0
  have H : (slices_IsSorted_string_string.l0 k l0 (wrap64 ((l0.length : Int) - 1))) = some r := h
  clear h
  have H' := Aside0.mk H
  clear H
  go_enter Try.func74, Try.ntmps74
  go_wp2
  repeat (go_quiet (fail); try go_wp2)
  go_loopg [3] k (fun kq v3 w' => ∃ (x3_1 : Int), v3 = .int .i64 x3_1 ∧ Aside0 (slices_IsSorted_string_string.l0 kq l0 x3_1 = some r) ∧ Aside0 (kq ≤ k) ∧ Drawn0 w w')
  case atStart => exact ⟨(wrap64 ((l0.length : Int) - 1)), (by first | rfl | (simp; done) | (simp [*]; done)), H', ⟨Nat.le_refl _⟩, by repeat (first | exact Drawn0.refl _ | apply Drawn0.step)⟩
  case round =>
    clear H'
    obtain ⟨x3_1, rfl, HA, HK1, ⟨m1, rfl⟩⟩ := hrel
    cases gk with
    | zero => exact absurd HA.out (by simp [slices_IsSorted_string_string.l0])
    | succ k1 =>
      have H := HA.out
      clear HA
      simp only [slices_IsSorted_string_string.l0] at H
      by_cases c2 : x3_1 > 0
      · rw [if_pos c2] at H
        have c2b0 : decide (0 < x3_1) = true := decide_eq_true c2
        clear c2
        by_cases c3 : 0 ≤ x3_1
        · rw [if_pos c3] at H
          have c3b0 : decide (0 ≤ x3_1) = true := decide_eq_true c3
          clear c3
          by_cases c4 : x3_1 < (l0.length : Int)
          · rw [if_pos c4] at H
            have c4b0 : decide (x3_1 < (l0.length : Int)) = true := decide_eq_true c4
            clear c4
            obtain ⟨ji5, hji5⟩ : ∃ j_ : Int, (wrap64 (x3_1 - 1)) = j_ := ⟨_, rfl⟩
            replace H : (if 0 ≤ (ji5) then (if (ji5) < (l0.length : Int) then ((cmp_Less_string.f (rdOf ByteArray.empty l0 x3_1) (rdOf ByteArray.empty l0 (ji5))).bind fun t108 => (if t108 = true then (some false) else (slices_IsSorted_string_string.l0 k1 l0 ji5))) else (none)) else (none)) = some r := by first | (rw [hji5] at H; exact H) | (simp only [hji5] at H ⊢; exact H)
            have hji5w : (IntKind.i64.wrap (x3_1 - 1)) = ji5 := (i64_w _).trans hji5
            by_cases c6 : 0 ≤ (ji5)
            · rw [if_pos c6] at H
              have c6b0 : decide (0 ≤ (ji5)) = true := decide_eq_true c6
              clear c6
              by_cases c7 : (ji5) < (l0.length : Int)
              · rw [if_pos c7] at H
                have c7b0 : decide ((ji5) < (l0.length : Int)) = true := decide_eq_true c7
                clear c7
                replace H := Option.bind_eq_some_iff.mp H
                obtain ⟨t108, A80, H⟩ := H
                replace H : (if t108 = true then (some false) else (slices_IsSorted_string_string.l0 k1 l0 ji5)) = some r := H
                have A8 := Aside0.mk A80
                clear A80
                by_cases c9 : t108 = true
                · subst c9
                  have H1 : (some false) = some r := by rw [if_pos rfl] at H; exact H
                  clear H
                  have H := H1
                  clear H1
                  obtain rfl := Option.some.inj H
                  have p106 : 0 ≤ (x3_1 : Int) := of_decide_eq_true (by first | (with_reducible assumption) | assumption)
                  have q106 : x3_1 < (l0.length : Int) := of_decide_eq_true (by first | (with_reducible assumption) | assumption)
                  obtain ⟨ad106, e106, hx106_0⟩ := Kd.at_string HR0.out x3_1 p106 q106
                  cases e106
                  replace p106 := eq_true p106
                  replace q106 := eq_true q106
                  have p107 : 0 ≤ ((ji5) : Int) := of_decide_eq_true (by first | (with_reducible assumption) | assumption)
                  have q107 : (ji5) < (l0.length : Int) := of_decide_eq_true (by first | (with_reducible assumption) | assumption)
                  obtain ⟨ad107, e107, hx107_0⟩ := Kd.at_string HR0.out (ji5) p107 q107
                  obtain rfl : ad106 = ad107 := (by injection e107)
                  replace p107 := eq_true p107
                  replace q107 := eq_true q107
                  go_wp2_with (first | (go_at_call 82; (with_reducible refine (cmp_Less_string.calls (rdOf ByteArray.empty l0 x3_1) (rdOf ByteArray.empty l0 (ji5)) true _ A8.out).mono ?_); rintro e w' ⟨rfl, ⟨nd, rfl⟩⟩; (try first | exact ⟨rfl, _, World.drewN_drewN _ _ _⟩ | exact ⟨rfl, _, Eq.trans (World.drewN_drewN _ _ _) (congrArg (World.drewN _) (Nat.add_assoc _ _ _))⟩)))
                  repeat (go_quiet (first | (go_at_call 82; (with_reducible refine (cmp_Less_string.calls (rdOf ByteArray.empty l0 x3_1) (rdOf ByteArray.empty l0 (ji5)) true _ A8.out).mono ?_); rintro e w' ⟨rfl, ⟨nd, rfl⟩⟩; (try first | exact ⟨rfl, _, World.drewN_drewN _ _ _⟩ | exact ⟨rfl, _, Eq.trans (World.drewN_drewN _ _ _) (congrArg (World.drewN _) (Nat.add_assoc _ _ _))⟩))); try go_wp2_with (first | (go_at_call 82; (with_reducible refine (cmp_Less_string.calls (rdOf ByteArray.empty l0 x3_1) (rdOf ByteArray.empty l0 (ji5)) true _ A8.out).mono ?_); rintro e w' ⟨rfl, ⟨nd, rfl⟩⟩; (try first | exact ⟨rfl, _, World.drewN_drewN _ _ _⟩ | exact ⟨rfl, _, Eq.trans (World.drewN_drewN _ _ _) (congrArg (World.drewN _) (Nat.add_assoc _ _ _))⟩))))
                  go_ret
                  exact ⟨by first | rfl | (simp; done) | (simp only [← hji5] <;> (first | rfl | simp)) | (simp [*]; done), by repeat (first | exact Drawn0.refl _ | apply Drawn0.step)⟩
                · replace c9 := Bool.eq_false_iff.mpr c9
                  subst c9
                  have H1 : (slices_IsSorted_string_string.l0 k1 l0 ji5) = some r := by rw [if_neg (show ¬ (false = true) by decide)] at H; exact H
                  clear H
                  have H := H1
                  clear H1
                  have H' := Aside0.mk H
                  clear H
                  have p106 : 0 ≤ (x3_1 : Int) := of_decide_eq_true (by first | (with_reducible assumption) | assumption)
                  have q106 : x3_1 < (l0.length : Int) := of_decide_eq_true (by first | (with_reducible assumption) | assumption)
                  obtain ⟨ad106, e106, hx106_0⟩ := Kd.at_string HR0.out x3_1 p106 q106
                  cases e106
                  replace p106 := eq_true p106
                  replace q106 := eq_true q106
                  have p107 : 0 ≤ ((ji5) : Int) := of_decide_eq_true (by first | (with_reducible assumption) | assumption)
                  have q107 : (ji5) < (l0.length : Int) := of_decide_eq_true (by first | (with_reducible assumption) | assumption)
                  obtain ⟨ad107, e107, hx107_0⟩ := Kd.at_string HR0.out (ji5) p107 q107
                  obtain rfl : ad106 = ad107 := (by injection e107)
                  replace p107 := eq_true p107
                  replace q107 := eq_true q107
                  go_wp2_with (first | (go_at_call 82; (with_reducible refine (cmp_Less_string.calls (rdOf ByteArray.empty l0 x3_1) (rdOf ByteArray.empty l0 (ji5)) false _ A8.out).mono ?_); rintro e w' ⟨rfl, ⟨nd, rfl⟩⟩; (try first | exact ⟨rfl, _, World.drewN_drewN _ _ _⟩ | exact ⟨rfl, _, Eq.trans (World.drewN_drewN _ _ _) (congrArg (World.drewN _) (Nat.add_assoc _ _ _))⟩)))
                  repeat (go_quiet (first | (go_at_call 82; (with_reducible refine (cmp_Less_string.calls (rdOf ByteArray.empty l0 x3_1) (rdOf ByteArray.empty l0 (ji5)) false _ A8.out).mono ?_); rintro e w' ⟨rfl, ⟨nd, rfl⟩⟩; (try first | exact ⟨rfl, _, World.drewN_drewN _ _ _⟩ | exact ⟨rfl, _, Eq.trans (World.drewN_drewN _ _ _) (congrArg (World.drewN _) (Nat.add_assoc _ _ _))⟩))); try go_wp2_with (first | (go_at_call 82; (with_reducible refine (cmp_Less_string.calls (rdOf ByteArray.empty l0 x3_1) (rdOf ByteArray.empty l0 (ji5)) false _ A8.out).mono ?_); rintro e w' ⟨rfl, ⟨nd, rfl⟩⟩; (try first | exact ⟨rfl, _, World.drewN_drewN _ _ _⟩ | exact ⟨rfl, _, Eq.trans (World.drewN_drewN _ _ _) (congrArg (World.drewN _) (Nat.add_assoc _ _ _))⟩))))
                  go_roundg k1
                  case measure => have := HK1.out; omega
                  case rel => exact ⟨(ji5), (by first | rfl | (simp; done) | (simp only [← hji5] <;> (first | rfl | simp)) | (simp [*]; done)), H', ⟨by have := HK1.out; omega⟩, by repeat (first | exact Drawn0.refl _ | apply Drawn0.step)⟩
              · rw [if_neg c7] at H
                exact absurd H (by simp)
            · rw [if_neg c6] at H
              exact absurd H (by simp)
          · rw [if_neg c4] at H
            exact absurd H (by simp)
        · rw [if_neg c3] at H
          exact absurd H (by simp)
      · rw [if_neg c2] at H
        have c2b0 : decide (0 < x3_1) = false := decide_eq_false c2
        clear c2
        obtain rfl := Option.some.inj H
        go_wp2
        repeat (go_quiet (fail); try go_wp2)
        go_ret
        exact ⟨by first | rfl | (simp; done) | (simp [*]; done), by repeat (first | exact Drawn0.refl _ | apply Drawn0.step)⟩

end Go.Proofs.Ytdpigeineephlaa.Prt
namespace Go.Proofs.Ytdpigeineephlaa.Nam
open Go.RowKit Go.Proofs.YtdpigeineephlaaW.PrintWords Go.Proofs.YtdpigeineephlaaW.PrintLast Go.Proofs.YtdpigeineephlaaW.PrintMore Go.Proofs.Ytdpigeineephlaa.Num Go.Proofs.Ytdpigeineephlaa.Prt
set_option linter.unusedVariables false
set_option linter.unusedSimpArgs false

theorem less_tri : ∀ x y : List UInt8, Op.bytesLess x y = true ↔ ¬ (Op.bytesLess y x = true) ∧ x ≠ y
  | [], [] => by simp [Op.bytesLess]
  | _ :: _, [] => by simp [Op.bytesLess]
  | [], _ :: _ => by simp [Op.bytesLess]
  | a :: x, b :: y => by
    have ih := less_tri x y
    simp only [Op.bytesLess, Bool.or_eq_true, Bool.and_eq_true, decide_eq_true_eq, beq_iff_eq, ne_eq, List.cons.injEq, not_or, not_and]
    have h1 : a < b ↔ a.toNat < b.toNat := UInt8.lt_iff_toNat_lt
    have h2 : b < a ↔ b.toNat < a.toNat := UInt8.lt_iff_toNat_lt
    have h3 : a = b ↔ a.toNat = b.toNat := ⟨fun h => by rw [h], UInt8.toNat_inj.1⟩
    have h4 : b = a ↔ b.toNat = a.toNat := ⟨fun h => by rw [h], UInt8.toNat_inj.1⟩
    rw [h1, h2, h3, h4, ih]
    constructor
    · rintro (h | ⟨h, g1, g2⟩)
      · exact ⟨⟨by omega, fun e => by omega⟩, fun e => by omega⟩
      · exact ⟨⟨by omega, fun _ => g1⟩, fun _ => g2⟩
    · rintro ⟨⟨g1, g2⟩, g3⟩
      by_cases e : a.toNat = b.toNat
      · exact .inr ⟨e, g2 e.symm, g3 e⟩
      · exact .inl (by omega)
theorem lessS_iff (a b : ByteArray) : lessS a b = (!lessS b a && decide (a.data.toList ≠ b.data.toList)) := by
  have h := less_tri a.toList b.toList
  unfold lessS
  rw [Bool.eq_iff_iff, h, Bool.and_eq_true, Bool.not_eq_true', decide_eq_true_iff, Lib.toList_data, Lib.toList_data, Bool.not_eq_true]
theorem rise_all (l : List ByteArray) : riseB l = (List.range (l.length - 1)).all fun j => lessS (l.getD j ByteArray.empty) (l.getD (j + 1) ByteArray.empty) := by
  induction l with
  | nil => rfl
  | cons a r ih =>
    cases r with
    | nil => rfl
    | cons b s =>
      rw [riseB, ih]
      simp only [List.length_cons, Nat.add_sub_cancel]
      rw [List.range_succ_eq_map, List.all_cons, List.all_map]
      rfl
/-- No text is less than the one before it. -/
def sortedB (l : List ByteArray) : Bool := (List.range (l.length - 1)).all fun j => !lessS (l.getD (j + 1) ByteArray.empty) (l.getD j ByteArray.empty)
/-- No text is the one before it. -/
def apartB (l : List ByteArray) : Bool := (List.range (l.length - 1)).all fun j => decide ((l.getD j ByteArray.empty).data.toList ≠ (l.getD (j + 1) ByteArray.empty).data.toList)
theorem rise_parts (l : List ByteArray) : riseB l = (sortedB l && apartB l) := by
  unfold sortedB apartB
  rw [rise_all, Bool.eq_iff_iff, Bool.and_eq_true, List.all_eq_true, List.all_eq_true, List.all_eq_true]
  constructor
  · intro h
    refine ⟨fun j hj => ?_, fun j hj => ?_⟩
    · have := h j hj; rw [lessS_iff, Bool.and_eq_true] at this; exact this.1
    · have := h j hj; rw [lessS_iff, Bool.and_eq_true] at this; exact this.2
  · rintro ⟨h1, h2⟩ j hj
    rw [lessS_iff, h1 j hj, h2 j hj]; rfl
theorem less_val (a b : ByteArray) : cmp_Less_string.f a b = some (lessS a b) := by
  unfold cmp_Less_string.f cmp_isNaN_string.f
  simp only [Option.bind_some, bne_self_eq_false, Bool.false_eq_true, if_false]
  rfl
theorem sorted_loop (l : List ByteArray) (hl : l.length ≤ 9223372036854775807) : ∀ (i k : Nat), i + 1 ≤ l.length → i < k → slices_IsSorted_string_string.l0 k l (i : Int) = some ((List.range i).all fun j => !lessS (l.getD (j + 1) ByteArray.empty) (l.getD j ByteArray.empty)) := by
  intro i
  induction i with
  | zero =>
    intro k hi hk
    obtain ⟨k, rfl⟩ : ∃ m, k = m + 1 := ⟨k - 1, by omega⟩
    rw [slices_IsSorted_string_string.l0, if_neg (by omega)]; rfl
  | succ i ih =>
    intro k hi hk
    obtain ⟨k, rfl⟩ : ∃ m, k = m + 1 := ⟨k - 1, by omega⟩
    have e1 : wrap64 (((i + 1 : Nat) : Int) - 1) = (i : Int) := by rw [wrapI (by omega) (by omega)]; omega
    rw [slices_IsSorted_string_string.l0, if_pos (by omega), if_pos (by omega), if_pos (by omega), e1, if_pos (by omega), if_pos (by omega), less_val, List.range_succ, List.all_append]
    simp only [Option.bind_some]
    have e2 : lessS (rdOf ByteArray.empty l ((i + 1 : Nat) : Int)) (rdOf ByteArray.empty l (i : Int)) = lessS (l.getD (i + 1) ByteArray.empty) (l.getD i ByteArray.empty) := rfl
    rw [e2]
    cases hs : lessS (l.getD (i + 1) ByteArray.empty) (l.getD i ByteArray.empty) with
    | true => rw [if_pos rfl]; simp only [List.all_cons, List.all_nil, hs]; simp
    | false => rw [if_neg (by decide), ih k (by omega) (by omega)]; simp only [List.all_cons, List.all_nil, hs]; simp
theorem sorted_val (l : List ByteArray) (hl : l.length ≤ 9223372036854775807) : slices_IsSorted_string_string.f (l.length + 1) l = some (sortedB l) := by
  unfold slices_IsSorted_string_string.f sortedB
  cases h : l.length with
  | zero =>
    have e : wrap64 (((0 : Nat) : Int) - 1) = -1 := by rw [wrapI (by omega) (by omega)]; rfl
    rw [e, slices_IsSorted_string_string.l0, if_neg (by omega)]; rfl
  | succ n =>
    have e : wrap64 (((n + 1 : Nat) : Int) - 1) = (n : Int) := by rw [wrapI (by omega) (by omega)]; omega
    rw [e, sorted_loop l hl n (n + 1 + 1) (by omega) (by omega)]; rfl
/-- Of texts that are all apart none goes. -/
theorem compact_len (l : List ByteArray) : ((Lib.compact (Lib.strsOf (fun i => l.getD i ByteArray.empty) l.length)).length == l.length) = apartB l := by
  obtain ⟨d, hd⟩ : ∃ d, d = (Lib.strsOf (fun i => l.getD i ByteArray.empty) l.length).toArray := ⟨_, rfl⟩
  have hz : ∀ j, j < l.length → d[j]! = (l.getD j ByteArray.empty).data.toList := by
    intro j hj
    rw [hd]
    unfold Lib.strsOf
    simp [hj]
  have e : (Lib.compact (Lib.strsOf (fun i => l.getD i ByteArray.empty) l.length)).length = ((List.range l.length).filter (Lib.keeps d)).length := by
    unfold Lib.compact Lib.compactUpTo
    rw [List.length_map, Lib.strsOf_length, hd]
  rw [e, Bool.eq_iff_iff, beq_iff_eq]
  unfold apartB
  rw [List.all_eq_true]
  have h2 : ((List.range l.length).filter (Lib.keeps d)).length = l.length ↔ ∀ a ∈ List.range l.length, Lib.keeps d a = true := by
    have := List.length_filter_eq_length_iff (p := Lib.keeps d) (l := List.range l.length)
    rwa [List.length_range] at this
  rw [h2]
  unfold Lib.keeps
  constructor
  · intro h j hj
    rw [List.mem_range] at hj
    have h3 := h (j + 1) (List.mem_range.2 (by omega))
    rw [decide_eq_true_iff] at h3 ⊢
    rcases h3 with h3 | h3
    · omega
    · rw [hz (j + 1) (by omega), Nat.add_sub_cancel, hz j (by omega)] at h3
      exact fun e => h3 e.symm
  · intro h j hj
    rw [List.mem_range] at hj
    rw [decide_eq_true_iff]
    by_cases h0 : j = 0
    · exact .inl h0
    · refine .inr ?_
      obtain ⟨i, rfl⟩ : ∃ i, j = i + 1 := ⟨j - 1, by omega⟩
      have h3 := h i (List.mem_range.2 (by omega))
      rw [decide_eq_true_iff] at h3
      rw [hz (i + 1) (by omega), Nat.add_sub_cancel, hz i (by omega)]
      exact fun e => h3 e.symm
end Go.Proofs.Ytdpigeineephlaa.Nam
namespace Go.Proofs.Ytdpigeineephlaa.Nam
open Go.RowKit Go.Proofs.YtdpigeineephlaaW.PrintWords Go.Proofs.YtdpigeineephlaaW.PrintLast Go.Proofs.YtdpigeineephlaaW.PrintMore Go.Proofs.Ytdpigeineephlaa.Num Go.Proofs.Ytdpigeineephlaa.Prt
set_option linter.unusedVariables false
set_option linter.unusedSimpArgs false

theorem cells_of (A : Option Addr) (l : List ByteArray) (w : World) (hC : Kd.C Kd.string w A l.length l) (h0 : 0 < l.length) : ∃ b off, A = some ⟨b, off, none⟩ ∧ ∀ j, j < l.length → w.cell? ⟨b, off + j, none⟩ = some (.string (l.getD j ByteArray.empty)) := by
  obtain ⟨ad, e_, hx⟩ := Kd.at_string hC ((0 : Nat) : Int) (by omega) (by omega)
  subst e_
  obtain ⟨b, off, spot⟩ := ad
  have hs := World.cell?_spot hx
  simp only [Int.toNat_natCast, Addr.add, if_pos rfl] at hs
  subst hs
  refine ⟨b, off, rfl, fun j hj => ?_⟩
  obtain ⟨ad, e_, hx⟩ := Kd.at_string hC (j : Int) (by omega) (by omega)
  cases e_
  rw [Int.toNat_natCast] at hx
  have e : (⟨b, off, none⟩ : Addr).add j = ⟨b, off + j, none⟩ := by
    unfold Addr.add
    by_cases h : j = 0
    · subst h; rfl
    · rw [if_neg h]
  rw [e] at hx
  rw [hx]; rfl
theorem own_slice {w : World} {base n : Nat} {v : Value} {xs : List Value} (h : w.ownsRow base 9 1 v n xs) (hv : v ≠ .slice none 0 0) : ∃ g cap, v = .slice (some ⟨g, 0, none⟩) n cap ∧ base ≤ g ∧ n ≤ cap := by
  rcases h.2 with ⟨e, _⟩ | ⟨g, cap, cur, e, h1, h2, h3, h4, h5, h6⟩
  · exact absurd e hv
  · exact ⟨g, cap, e, h1, h3⟩
theorem rise_calls (A : Option Addr) (c : Nat) (l : List ByteArray) (w : World) (hC : Kd.C Kd.string w A l.length l) (hc : l.length ≤ c) (hl : l.length ≤ 1000000) :
    Calls Try.prog 59 #[.slice A l.length c] w fun e w' => e = .returned (.bool (riseB l)) ∧ Below w.heap.size w w' := by
  have HR := Aside0.mk (rise_parts l)
  have HCL := Aside0.mk (compact_len l)
  have HSO := Aside0.mk (slices_IsSorted_string_string.calls (l.length + 1) A c l (sortedB l) w hC hc (sorted_val l (by omega)))
  have HC := Aside0.mk hC
  clear hC hc
  go_enter Try.func59, Try.ntmps59
  go_wp2_with fail
  refine HSO.out.mono ?_
  rintro e w1 ⟨rfl, hd⟩
  have HB1 := Aside0.mk hd.below
  clear hd HSO
  cases hs : sortedB l with
  | false =>
    have HR2 := Aside0.mk (show riseB l = false by rw [HR.out, hs]; rfl)
    clear hs
    go_wp2
    go_ret
    exact ⟨by rw [HR2.out]; rfl, HB1.out⟩
  | true =>
  have HR2 := Aside0.mk (show riseB l = apartB l by rw [HR.out, hs]; rfl)
  clear hs HR
  by_cases h0 : l.length = 0
  · have HAP := Aside0.mk (show apartB l = true by unfold apartB; rw [h0]; rfl)
    have h0' : (l.length : Int) = 0 := by omega
    cases A with
    | none =>
      have HT1 := Aside0.mk (Try.slices_Clone_string_nil l.length c w1)
      have HT2 := Aside0.mk (Try.slices_Compact_string_empty none 0 w1)
      have d0 : ((0 : Int) == (l.length : Int)) = true := beq_iff_eq.mpr h0'.symm
      clear h0 h0'
      go_wp2_with fail
      refine HT1.out.mono ?_
      rintro e w2 ⟨rfl, rfl⟩
      go_wp2_with fail
      refine HT2.out.mono ?_
      rintro e w3 ⟨rfl, rfl⟩
      go_wp2
      go_ret
      exact ⟨by rw [HR2.out, HAP.out]; rfl, HB1.out⟩
    | some ad =>
      have HT1 : Aside0 (Calls Try.prog 76 #[.slice (some ad) l.length c] w1 fun e w' => ∃ v', e = .returned v' ∧ w'.ownsRow w1.heap.size 9 1 v' 0 [] ∧ v' ≠ .slice none 0 0 ∧ Below w1.heap.size w1 w') := ⟨by rw [h0]; exact Try.slices_Clone_string_zero ad c w1⟩
      have d0 : ((0 : Int) == (l.length : Int)) = true := beq_iff_eq.mpr h0'.symm
      clear h0 h0'
      go_wp2_with fail
      refine HT1.out.mono ?_
      rintro e w2 ⟨v, rfl, ho, hv, hb⟩
      obtain ⟨g, cap, rfl, hg, hcap⟩ := own_slice ho hv
      have HB2 := Aside0.mk (below_step HB1.out hb)
      clear ho hv hb hg
      have HT2 := Aside0.mk (Try.slices_Compact_string_empty (some ⟨g, 0, none⟩) cap w2)
      go_wp2_with fail
      refine HT2.out.mono ?_
      rintro e w3 ⟨rfl, rfl⟩
      go_wp2
      go_ret
      exact ⟨by rw [HR2.out, HAP.out]; rfl, HB2.out⟩
  · obtain ⟨b, off, rfl, hcell⟩ := cells_of A l w1 (Kd.C_below HC.out HB1.out) (by omega)
    have HT1 := Aside0.mk (Try.slices_Clone_string b off l.length c l w1 (Nat.le_refl _) (by omega) hcell)
    clear hcell h0
    go_wp2_with fail
    refine HT1.out.mono ?_
    rintro e w2 ⟨v, rfl, ho, hv, hb⟩
    obtain ⟨g, cap, rfl, hg, hcap⟩ := own_slice ho hv
    have HB2 := Aside0.mk (below_step HB1.out hb)
    have HG := Aside0.mk (show w.heap.size ≤ g from Nat.le_trans HB1.out.size hg)
    have HT2 := Aside0.mk (Try.slices_Compact_string_cells g 0 l.length cap (fun i => l.getD i ByteArray.empty) w2 (by omega) hcap (fun i hi => by
      have h1 := World.ownsRow.cellAt ho i (by omega)
      rw [Nat.zero_add, h1, List.take_length, List.getElem?_map, List.getElem?_eq_getElem hi, List.getD_eq_getElem?_getD, List.getElem?_eq_getElem hi]; rfl) (fun j hj => by rw [Nat.zero_add]; exact World.ownsRow.frozenAt ho j))
    clear ho hv hb hg hcap HT1
    go_wp2_with fail
    refine HT2.out.mono ?_
    rintro e w3 ⟨rfl, q, rfl⟩
    clear HT2
    obtain ⟨m, hm⟩ : ∃ m, m = (Lib.compact (Lib.strsOf (fun i => l.getD i ByteArray.empty) l.length)).length := ⟨_, rfl⟩
    have HM : Aside0 (((m : Int) == (l.length : Int)) = apartB l) := ⟨by
      rw [← HCL.out, ← hm, Bool.eq_iff_iff, beq_iff_eq, beq_iff_eq]; omega⟩
    rw [← hm]
    clear hm
    go_wp2
    go_ret
    exact ⟨by rw [HR2.out, ← HM.out]; rfl, Go.below_setCells HG.out _ _ _ (pw_below_drewN HB2.out q)⟩
end Go.Proofs.Ytdpigeineephlaa.Nam
namespace Go.Proofs.Ytdpigeineephlaa.Prt
open Go.RowKit Go.Proofs.YtdpigeineephlaaW.PrintWords Go.Proofs.YtdpigeineephlaaW.PrintLast Go.Proofs.YtdpigeineephlaaW.PrintMore Go.Proofs.Ytdpigeineephlaa.Num Go.Proofs.Ytdpigeineephlaa.Nam
set_option linter.unusedVariables false
set_option linter.unusedSimpArgs false
def query_rise.f (l0 : List ByteArray) : Option (Bool) := if l0.length ≤ 1000000 then some (riseB l0) else none
theorem query_rise.calls (A0 : Option Addr) (c0 : Nat) (l0 : List ByteArray) (r : Bool) (w : World) (hr0 : Kd.C Kd.string w A0 l0.length l0) (hc0 : l0.length ≤ c0) (h : query_rise.f l0 = some r) :
    Calls Try.prog 59 #[.slice A0 l0.length c0] w fun e w' => e = .returned (.bool r) ∧ Below w.heap.size w w' := by
  unfold query_rise.f at h
  by_cases hc : l0.length ≤ 1000000
  · rw [if_pos hc] at h
    obtain rfl := Option.some.inj h
    exact rise_calls A0 c0 l0 w hr0 hc0 hc
  · rw [if_neg hc] at h; cases h
end Go.Proofs.Ytdpigeineephlaa.Prt
namespace Go.Proofs.Ytdpigeineephlaa.Prt
open Go.RowKit Go.Proofs.YtdpigeineephlaaW.PrintWords Go.Proofs.YtdpigeineephlaaW.PrintLast Go.Proofs.YtdpigeineephlaaW.PrintMore
attribute [local go_sem] max2_int min2_int max_two min_two max_three min_three max_four min_four   -- for this text's walks alone
set_option linter.unusedVariables false
set_option linter.unusedSimpArgs false

def query_May_3.f (l0_0 : List ByteArray) (l0_1 : List ByteArray) : Option (Bool) := (query_rise.f l0_0).bind fun t110 => (if t110 = true then ((query_rise.f l0_1).bind fun t111 => (some (!t111))) else (some true))
set_option maxHeartbeats 8000000 in
set_option maxRecDepth 100000 in
theorem query_May_3.calls (A0_0 : Option Addr) (c0_0 : Nat) (l0_0 : List ByteArray) (A0_1 : Option Addr) (c0_1 : Nat) (l0_1 : List ByteArray) (r : Bool) (w : World) (hr0_0 : Kd.C Kd.string w A0_0 l0_0.length l0_0) (hc0_0 : l0_0.length ≤ c0_0) (hr0_1 : Kd.C Kd.string w A0_1 l0_1.length l0_1) (hc0_1 : l0_1.length ≤ c0_1) (h : query_May_3.f l0_0 l0_1 = some r) :
    Calls Try.prog 58 #[.agg #[.slice A0_0 l0_0.length c0_0, .slice A0_1 l0_1.length c0_1]] w fun e w' => e = .returned (.bool r) ∧ Below w.heap.size w w' := by
  have hu60 := Try.underlying60
  have HR0_0 := Aside0.mk hr0_0
  have HC0_0 := Aside0.mk hc0_0
  clear hr0_0 hc0_0
  have HR0_1 := Aside0.mk hr0_1
  have HC0_1 := Aside0.mk hc0_1
  clear hr0_1 hc0_1
  have HB := Aside0.mk (Below.refl w.heap.size w)
  have H : ((query_rise.f l0_0).bind fun t110 => (if t110 = true then ((query_rise.f l0_1).bind fun t111 => (some (!t111))) else (some true))) = some r := h
  clear h
  replace H := Option.bind_eq_some_iff.mp H
  obtain ⟨t110, A20, H⟩ := H
  replace H : (if t110 = true then ((query_rise.f l0_1).bind fun t111 => (some (!t111))) else (some true)) = some r := H
  have A2 := Aside0.mk A20
  clear A20
  by_cases c3 : t110 = true
  · subst c3
    have H1 : ((query_rise.f l0_1).bind fun t111 => (some (!t111))) = some r := by rw [if_pos rfl] at H; exact H
    clear H
    have H := H1
    clear H1
    replace H := Option.bind_eq_some_iff.mp H
    obtain ⟨t111, A40, H⟩ := H
    replace H : (some (!t111)) = some r := H
    have A4 := Aside0.mk A40
    clear A40
    obtain rfl := Option.some.inj H
    go_enter Try.func58, Try.ntmps58
    go_wp2_with (first | ((with_reducible refine gate_dst (N := 1) rfl ?_); refine box_event ?hg (N := 1) ?hd (cs := #[.slice A0_0 l0_0.length c0_0, .slice A0_1 l0_1.length c0_1]) (t := 60) ?hr ?_; (case hd => rfl); (case hg => rfl); (case hr => first | (go_simp; done) | (go_simp; rfl)); intro gb109 hg w5 hbox hb; have n0_ := Aside0.mk (below_step (by repeat (first | (with_reducible first | exact HB.out | apply below_alloc | apply pw_below_drewN | apply below_drew1) | exact HB.out)) hb); have n1_ := Aside0.mk (hbox); have n2_ := Aside0.mk ((by rw [hg]; exact (below_size (by repeat (first | (with_reducible first | exact HB.out | apply below_alloc | apply pw_below_drewN | apply below_drew1) | exact HB.out))) : w.heap.size ≤ gb109)); have n3_ := Aside0.mk ((by rw [hg]; exact (below_size (by repeat (first | (with_reducible first | exact HB.out | apply below_alloc | apply pw_below_drewN | apply below_drew1) | exact HB.out))) : w.heap.size ≤ gb109)); clear HB; have HB := n0_; have BK109 := n1_; have GW109 := n2_; have GE109 := n3_; clear n0_ n1_ n2_ n3_; clear hb hbox hg; have hcz6_0 : w5.cell? ⟨gb109, 0, none⟩ = some (.slice A0_0 l0_0.length c0_0) := (blk_cell BK109.out 0).trans rfl; have hcz6_1 : w5.cell? ⟨gb109, 1, none⟩ = some (.slice A0_1 l0_1.length c0_1) := (blk_cell BK109.out 1).trans rfl; have hfz6_0 := blk_frozen BK109.out 0; have hfz6_1 := blk_frozen BK109.out 1) | ((with_reducible refine gate_callee (f := 59) rfl ?_); refine goesL_ (some 5) rfl rfl Try.func59 (by kernel_rfl) rfl #[.slice A0_0 l0_0.length c0_0] rfl (by (try simp only [List.map_toArray, List.map_cons, List.map_nil]); first | done | rfl | (simp only [List.length_drop, List.length_take]; rfl)) ?_; (with_reducible refine (query_rise.calls _ _ l0_0 true _ ?side1 ?side2 A2.out).mono ?_); (case side1 => repeat (first | exact (Kd.C_below HR0_0.out HB.out) | (with_reducible refine Kd.C_alloc ?_ _) | (with_reducible refine Kd.C_drewN ?_ _) | (with_reducible refine Kd.C_drew ?_))); (case side2 => exact HC0_0.out); rintro e w7 ⟨rfl, hb⟩; refine ⟨_, rfl, ?_⟩; have n0_ := Aside0.mk (blk_below (g := gb109) (o := .cells #[.slice A0_0 l0_0.length c0_0, .slice A0_1 l0_1.length c0_1] 60 (0, 0)) (by (with_reducible repeat (first | refine blk_drewN ?_ _ | refine blk_drew ?_ | refine blk_alloc ?_ _)); exact BK109.out) hb); have n1_ := Aside0.mk (below_step (by repeat (first | (with_reducible first | exact HB.out | apply below_alloc | apply pw_below_drewN | apply below_drew1 | refine below_set ?_ GE109.out) | exact HB.out)) hb); clear BK109; clear HB; have BK109 := n0_; have HB := n1_; clear n0_ n1_; (try clear hb); (try clear hb2); (try clear hk); (try clear hi); have hcz8_0 : w7.cell? ⟨gb109, 0, none⟩ = some (.slice A0_0 l0_0.length c0_0) := (blk_cell BK109.out 0).trans rfl; have hcz8_1 : w7.cell? ⟨gb109, 1, none⟩ = some (.slice A0_1 l0_1.length c0_1) := (blk_cell BK109.out 1).trans rfl; have hfz8_0 := blk_frozen BK109.out 0; have hfz8_1 := blk_frozen BK109.out 1) | (go_at_call 59; (with_reducible refine (query_rise.calls _ _ l0_1 t111 _ ?side1 ?side2 A4.out).mono ?_); (case side1 => repeat (first | exact (Kd.C_below HR0_1.out HB.out) | (with_reducible refine Kd.C_alloc ?_ _) | (with_reducible refine Kd.C_drewN ?_ _) | (with_reducible refine Kd.C_drew ?_))); (case side2 => exact HC0_1.out); rintro e w9 ⟨rfl, hb⟩; have n0_ := Aside0.mk (blk_below (g := gb109) (o := .cells #[.slice A0_0 l0_0.length c0_0, .slice A0_1 l0_1.length c0_1] 60 (0, 0)) (by (with_reducible repeat (first | refine blk_drewN ?_ _ | refine blk_drew ?_ | refine blk_alloc ?_ _)); exact BK109.out) hb); have n1_ := Aside0.mk (below_step (by repeat (first | (with_reducible first | exact HB.out | apply below_alloc | apply pw_below_drewN | apply below_drew1 | refine below_set ?_ GE109.out) | exact HB.out)) hb); clear BK109; clear HB; have BK109 := n0_; have HB := n1_; clear n0_ n1_; (try clear hb); (try clear hb2); (try clear hk); (try clear hi)))
    go_ret
    exact ⟨by first | rfl | (simp [errW_none, errW_some] <;> rfl) | (simp [*, errW_none, errW_some] <;> rfl), by repeat (first | (with_reducible first | exact HB.out | apply below_alloc | apply pw_below_drewN | apply below_drew1 | refine below_set ?_ GE109.out) | exact HB.out)⟩
  · replace c3 := Bool.eq_false_iff.mpr c3
    subst c3
    have H1 : (some true) = some r := by rw [if_neg (show ¬ (false = true) by decide)] at H; exact H
    clear H
    have H := H1
    clear H1
    obtain rfl := Option.some.inj H
    go_enter Try.func58, Try.ntmps58
    go_wp2_with (first | ((with_reducible refine gate_dst (N := 1) rfl ?_); refine box_event ?hg (N := 1) ?hd (cs := #[.slice A0_0 l0_0.length c0_0, .slice A0_1 l0_1.length c0_1]) (t := 60) ?hr ?_; (case hd => rfl); (case hg => rfl); (case hr => first | (go_simp; done) | (go_simp; rfl)); intro gb109 hg w10 hbox hb; have n0_ := Aside0.mk (below_step (by repeat (first | (with_reducible first | exact HB.out | apply below_alloc | apply pw_below_drewN | apply below_drew1) | exact HB.out)) hb); have n1_ := Aside0.mk (hbox); have n2_ := Aside0.mk ((by rw [hg]; exact (below_size (by repeat (first | (with_reducible first | exact HB.out | apply below_alloc | apply pw_below_drewN | apply below_drew1) | exact HB.out))) : w.heap.size ≤ gb109)); have n3_ := Aside0.mk ((by rw [hg]; exact (below_size (by repeat (first | (with_reducible first | exact HB.out | apply below_alloc | apply pw_below_drewN | apply below_drew1) | exact HB.out))) : w.heap.size ≤ gb109)); clear HB; have HB := n0_; have BK109 := n1_; have GW109 := n2_; have GE109 := n3_; clear n0_ n1_ n2_ n3_; clear hb hbox hg; have hcz11_0 : w10.cell? ⟨gb109, 0, none⟩ = some (.slice A0_0 l0_0.length c0_0) := (blk_cell BK109.out 0).trans rfl; have hcz11_1 : w10.cell? ⟨gb109, 1, none⟩ = some (.slice A0_1 l0_1.length c0_1) := (blk_cell BK109.out 1).trans rfl; have hfz11_0 := blk_frozen BK109.out 0; have hfz11_1 := blk_frozen BK109.out 1) | ((with_reducible refine gate_callee (f := 59) rfl ?_); refine goesL_ (some 5) rfl rfl Try.func59 (by kernel_rfl) rfl #[.slice A0_0 l0_0.length c0_0] rfl (by (try simp only [List.map_toArray, List.map_cons, List.map_nil]); first | done | rfl | (simp only [List.length_drop, List.length_take]; rfl)) ?_; (with_reducible refine (query_rise.calls _ _ l0_0 false _ ?side1 ?side2 A2.out).mono ?_); (case side1 => repeat (first | exact (Kd.C_below HR0_0.out HB.out) | (with_reducible refine Kd.C_alloc ?_ _) | (with_reducible refine Kd.C_drewN ?_ _) | (with_reducible refine Kd.C_drew ?_))); (case side2 => exact HC0_0.out); rintro e w12 ⟨rfl, hb⟩; refine ⟨_, rfl, ?_⟩; have n0_ := Aside0.mk (blk_below (g := gb109) (o := .cells #[.slice A0_0 l0_0.length c0_0, .slice A0_1 l0_1.length c0_1] 60 (0, 0)) (by (with_reducible repeat (first | refine blk_drewN ?_ _ | refine blk_drew ?_ | refine blk_alloc ?_ _)); exact BK109.out) hb); have n1_ := Aside0.mk (below_step (by repeat (first | (with_reducible first | exact HB.out | apply below_alloc | apply pw_below_drewN | apply below_drew1 | refine below_set ?_ GE109.out) | exact HB.out)) hb); clear BK109; clear HB; have BK109 := n0_; have HB := n1_; clear n0_ n1_; (try clear hb); (try clear hb2); (try clear hk); (try clear hi)))
    go_ret
    exact ⟨by first | rfl | (simp [errW_none, errW_some] <;> rfl) | (simp [*, errW_none, errW_some] <;> rfl), by repeat (first | (with_reducible first | exact HB.out | apply below_alloc | apply pw_below_drewN | apply below_drew1 | refine below_set ?_ GE109.out) | exact HB.out)⟩

end Go.Proofs.Ytdpigeineephlaa.Prt
namespace Go.Proofs.Ytdpigeineephlaa.Nam
open Go.RowKit Go.Proofs.YtdpigeineephlaaW.PrintWords Go.Proofs.YtdpigeineephlaaW.PrintLast Go.Proofs.YtdpigeineephlaaW.PrintMore Go.Proofs.Ytdpigeineephlaa.Num Go.Proofs.Ytdpigeineephlaa.Prt
set_option linter.unusedVariables false
set_option linter.unusedSimpArgs false

/-- slices.IndexFunc, at a closure. -/
theorem idxStr0 (p : ByteArray → Bool) (G : Nat) (A : Option Addr) (c : Nat) (l : List ByteArray) (w : World) (hC : Kd.C Kd.string w A l.length l)
    (hent : ∀ (xs : Array Value) (W : World), (callFunc G xs).run Try.prog W = .ok (.enter G xs) W)
    (hf : ∀ x ∈ l, ∀ w1, Below w.heap.size w w1 → Calls Try.prog G #[.string x] w1 fun e w2 => e = .returned (.bool (p x)) ∧ Below w1.heap.size w1 w2) :
    Calls Try.prog 71 #[.slice A l.length c, .func (.func G) #[] #[]] w fun e w' => ∃ r : Int, e = .returned (.int .i64 r) ∧ decide (0 ≤ r) = l.any p ∧ Below w.heap.size w w' := by
  have HC := Aside0.mk hC
  have HF := Aside0.mk hf
  have hn := Kd.C_max hC
  clear hC hf
  go_enter Try.func71, Try.ntmps71
  go_wp2
  go_loopg [8] (l.length) (fun k v8 w' => ∃ i : Nat, v8 = .int .i64 (i : Int) ∧ Aside0 (i + k = l.length) ∧ Aside0 ((l.take i).any p = false) ∧ Aside0 (Below w.heap.size w w'))
  case atStart => exact ⟨0, rfl, ⟨by omega⟩, ⟨by simp⟩, ⟨Below.refl _ _⟩⟩
  case round =>
    obtain ⟨i, rfl, HE, HN, HB⟩ := hrel
    by_cases hlt : i < l.length
    · have hb1 : decide ((i : Int) < (l.length : Int)) = true := decide_eq_true (by omega)
      obtain ⟨ad, e_, hx⟩ := Kd.at_string (Kd.C_below HC.out HB.out) (i : Int) (by omega) (by omega)
      cases e_
      rw [Int.toNat_natCast] at hx
      obtain ⟨x, hx0⟩ : ∃ x, x = rdOf ByteArray.empty l (i : Int) := ⟨_, rfl⟩
      rw [← hx0] at hx
      have hxm : x ∈ l := by rw [hx0]; exact getD_mem' hlt _
      have hstep : (l.take (i + 1)).any p = p x := by rw [take_any p l i hlt ByteArray.empty, HN.out, hx0]; rfl
      have HS := Aside0.mk hstep
      have HCALL := Aside0.mk (HF.out x hxm wr HB.out)
      clear hx0 hxm hstep
      cases hp : p x with
      | true =>
        have HP := Aside0.mk hp
        clear hp
        go_wp2_with fail
        refine HCALL.out.mono ?_
        rintro e w2 ⟨rfl, hb2⟩
        rw [HP.out]
        have HB2 := Aside0.mk hb2
        clear hb2
        go_wp2
        go_ret
        refine ⟨_, rfl, ?_, below_step HB.out HB2.out⟩
        rw [any_of_take (HS.out.trans HP.out)]
        exact decide_eq_true (by omega)
      | false =>
        have HP := Aside0.mk hp
        clear hp
        go_wp2_with fail
        refine HCALL.out.mono ?_
        rintro e w2 ⟨rfl, hb2⟩
        rw [HP.out]
        have HB2 := Aside0.mk hb2
        clear hb2
        go_wp2
        go_roundg (l.length - (i + 1))
        case measure => have := HE.out; omega
        case rel => exact ⟨i + 1, by go_num, ⟨by have := HE.out; omega⟩, ⟨HS.out.trans HP.out⟩, ⟨below_step HB.out HB2.out⟩⟩
    · have hb1 : decide ((i : Int) < (l.length : Int)) = false := decide_eq_false (by omega)
      go_wp2
      go_ret
      refine ⟨_, rfl, ?_, HB.out⟩
      have := HN.out
      rw [take_any_all p l i (by omega)] at this
      rw [this]; rfl

theorem contStr0 (p : ByteArray → Bool) (G : Nat) (A : Option Addr) (c : Nat) (l : List ByteArray) (w : World) (hC : Kd.C Kd.string w A l.length l)
    (hent : ∀ (xs : Array Value) (W : World), (callFunc G xs).run Try.prog W = .ok (.enter G xs) W)
    (hf : ∀ x ∈ l, ∀ w1, Below w.heap.size w w1 → Calls Try.prog G #[.string x] w1 fun e w2 => e = .returned (.bool (p x)) ∧ Below w1.heap.size w1 w2) :
    Calls Try.prog 53 #[.slice A l.length c, .func (.func G) #[] #[]] w fun e w' => e = .returned (.bool (l.any p)) ∧ Below w.heap.size w w' := by
  have H := idxStr0 p G  A c l w hC hent hf
  clear hC hent hf
  go_enter Try.func53, Try.ntmps53
  go_wp2_with fail
  refine H.mono ?_
  rintro e w2 ⟨r, rfl, hd, hb⟩
  go_wp2
  go_ret
  exact ⟨by first | rw [hd] | rfl | assumption, hb⟩
/-- slices.IndexFunc, at a closure. -/
theorem idxCla (p : S60 → Bool) (G : Nat) (A : Option Addr) (c : Nat) (l : List S60) (w : World) (hC : Kd.C k60 w A l.length l)
    (hent : ∀ (xs : Array Value) (W : World), (callFunc G xs).run Try.prog W = .ok (.enter G xs) W)
    (hf : ∀ x ∈ l, ∀ w1, Below w.heap.size w w1 → ∀ A0 c0 A1 c1, Kd.C Kd.string w1 A0 x.f0.length x.f0 → x.f0.length ≤ c0 → Kd.C Kd.string w1 A1 x.f1.length x.f1 → x.f1.length ≤ c1 → Calls Try.prog G #[.agg #[.slice A0 x.f0.length c0, .slice A1 x.f1.length c1]] w1 fun e w2 => e = .returned (.bool (p x)) ∧ Below w1.heap.size w1 w2) :
    Calls Try.prog 81 #[.slice A l.length c, .func (.func G) #[] #[]] w fun e w' => ∃ r : Int, e = .returned (.int .i64 r) ∧ decide (0 ≤ r) = l.any p ∧ Below w.heap.size w w' := by
  have HC := Aside0.mk hC
  have HF := Aside0.mk hf
  have hn := Kd.C_max hC
  clear hC hf
  have hu60 := Try.underlying60
  go_enter Try.func81, Try.ntmps81
  go_wp2
  go_loopg [8] (l.length) (fun k v8 w' => ∃ i : Nat, v8 = .int .i64 (i : Int) ∧ Aside0 (i + k = l.length) ∧ Aside0 ((l.take i).any p = false) ∧ Aside0 (Below w.heap.size w w'))
  case atStart => exact ⟨0, rfl, ⟨by omega⟩, ⟨by simp⟩, ⟨Below.refl _ _⟩⟩
  case round =>
    obtain ⟨i, rfl, HE, HN, HB⟩ := hrel
    by_cases hlt : i < l.length
    · have hb1 : decide ((i : Int) < (l.length : Int)) = true := decide_eq_true (by omega)
      obtain ⟨ad, A0, c0, A1, c1, e_, hx, hx1, hl0, hi0, hl1, hi1⟩ := at_T60 (Kd.C_below HC.out HB.out) (i : Int) (by omega) (by omega)
      cases e_
      rw [Int.toNat_natCast] at hx hx1
      obtain ⟨x, hx0⟩ : ∃ x, x = rd_T60 l (i : Int) := ⟨_, rfl⟩
      rw [← hx0] at hx hx1 hl0 hi0 hl1 hi1
      have hxm : x ∈ l := by rw [hx0]; exact getD_mem' hlt _
      have hstep : (l.take (i + 1)).any p = p x := by rw [take_any p l i hlt z60, HN.out, hx0]; rfl
      have HS := Aside0.mk hstep
      have HCALL := Aside0.mk (HF.out x hxm wr HB.out A0 c0 A1 c1 hi0 hl0 hi1 hl1)
      clear hx0 hxm hstep hi0 hl0 hi1 hl1
      cases hp : p x with
      | true =>
        have HP := Aside0.mk hp
        clear hp
        go_wp2_with fail
        refine HCALL.out.mono ?_
        rintro e w2 ⟨rfl, hb2⟩
        rw [HP.out]
        have HB2 := Aside0.mk hb2
        clear hb2
        go_wp2
        go_ret
        refine ⟨_, rfl, ?_, below_step HB.out HB2.out⟩
        rw [any_of_take (HS.out.trans HP.out)]
        exact decide_eq_true (by omega)
      | false =>
        have HP := Aside0.mk hp
        clear hp
        go_wp2_with fail
        refine HCALL.out.mono ?_
        rintro e w2 ⟨rfl, hb2⟩
        rw [HP.out]
        have HB2 := Aside0.mk hb2
        clear hb2
        go_wp2
        go_roundg (l.length - (i + 1))
        case measure => have := HE.out; omega
        case rel => exact ⟨i + 1, by go_num, ⟨by have := HE.out; omega⟩, ⟨HS.out.trans HP.out⟩, ⟨below_step HB.out HB2.out⟩⟩
    · have hb1 : decide ((i : Int) < (l.length : Int)) = false := decide_eq_false (by omega)
      go_wp2
      go_ret
      refine ⟨_, rfl, ?_, HB.out⟩
      have := HN.out
      rw [take_any_all p l i (by omega)] at this
      rw [this]; rfl

theorem contCla (p : S60 → Bool) (G : Nat) (A : Option Addr) (c : Nat) (l : List S60) (w : World) (hC : Kd.C k60 w A l.length l)
    (hent : ∀ (xs : Array Value) (W : World), (callFunc G xs).run Try.prog W = .ok (.enter G xs) W)
    (hf : ∀ x ∈ l, ∀ w1, Below w.heap.size w w1 → ∀ A0 c0 A1 c1, Kd.C Kd.string w1 A0 x.f0.length x.f0 → x.f0.length ≤ c0 → Kd.C Kd.string w1 A1 x.f1.length x.f1 → x.f1.length ≤ c1 → Calls Try.prog G #[.agg #[.slice A0 x.f0.length c0, .slice A1 x.f1.length c1]] w1 fun e w2 => e = .returned (.bool (p x)) ∧ Below w1.heap.size w1 w2) :
    Calls Try.prog 73 #[.slice A l.length c, .func (.func G) #[] #[]] w fun e w' => e = .returned (.bool (l.any p)) ∧ Below w.heap.size w w' := by
  have H := idxCla p G  A c l w hC hent hf
  clear hC hent hf
  go_enter Try.func73, Try.ntmps73
  go_wp2_with fail
  refine H.mono ?_
  rintro e w2 ⟨r, rfl, hd, hb⟩
  go_wp2
  go_ret
  exact ⟨by first | rw [hd] | rfl | assumption, hb⟩
/-- What is asked of a query's clauses. -/
theorem some_calls (p : S60 → Bool) (b : Bool) (G : Nat) (A : Option Addr) (c : Nat) (l : List S60) (w : World) (hp : l.any p = b) (hC : Kd.C k60 w A l.length l)
    (hent : ∀ (xs : Array Value) (W : World), (callFunc G xs).run Try.prog W = .ok (.enter G xs) W)
    (hf : ∀ x ∈ l, ∀ w1, Below w.heap.size w w1 → ∀ A0 c0 A1 c1, Kd.C Kd.string w1 A0 x.f0.length x.f0 → x.f0.length ≤ c0 → Kd.C Kd.string w1 A1 x.f1.length x.f1 → x.f1.length ≤ c1 → Calls Try.prog G #[.agg #[.slice A0 x.f0.length c0, .slice A1 x.f1.length c1]] w1 fun e w2 => e = .returned (.bool (p x)) ∧ Below w1.heap.size w1 w2) :
    Calls Try.prog 57 #[.agg #[.slice A l.length c], .func (.func G) #[] #[]] w fun e w' => e = .returned (.bool b) ∧ Below w.heap.size w w' := by
  subst hp
  have hu25 := Try.underlying25
  have HB := Aside0.mk (Below.refl w.heap.size w)
  have HC := Aside0.mk hC
  have HF := Aside0.mk hf
  clear hC hf
  go_enter Try.func57, Try.ntmps57
  go_wp2_with (first | ((with_reducible refine gate_dst (N := 2) rfl ?_); (try (refine gate_guard (by rfl) ?_; dsimp only)); refine box_event ?hg (N := 2) ?hd (cs := #[.slice A l.length c]) (t := 25) ?hr ?_; (case hd => rfl); (case hg => rfl); (case hr => first | (go_simp; done) | (go_simp; rfl)); intro g hg_ w2 hbox_ hb_; have HBX := Aside0.mk hbox_; have HBN := Aside0.mk hg_; have HBB := Aside0.mk hb_; clear hbox_ hg_ hb_; have hc0 := blk_cell HBX.out 0; have hf0 := blk_frozen HBX.out 0))
  refine (contCla p G A c l w2 (Kd.C_below HC.out HBB.out) hent (fun x hx w1 hb => HF.out x hx w1 (below_step HBB.out hb))).mono ?_
  rintro e w3 ⟨rfl, hb⟩
  have HB3 := Aside0.mk (below_step HBB.out hb)
  clear hb
  go_wp2
  go_ret
  exact ⟨rfl, HB3.out⟩
def bigC (x : S60) : Bool := decide (4 < x.f0.length) || decide (4 < x.f1.length)
def noneC (x : S60) : Bool := (x.f0.any fun s => !tagB s) || (x.f1.any fun s => !mayL (bytesOf s))
def downC (x : S60) : Bool := !riseB x.f0 || !riseB x.f1
/-- What is wrong with a query. -/
def mayQ (l : List S60) : Int := if 4 < l.length ∨ l.any bigC = true then 3 else if l.any noneC = true then 5 else if l.any downC = true then 1 else 0
theorem big_val (x : S60) : query_May_1.f x.f0 x.f1 = some (bigC x) := by
  unfold query_May_1.f bigC
  by_cases h : (x.f0.length : Int) > 4
  · rw [if_pos h, decide_eq_true (show 4 < x.f0.length by omega), Bool.true_or]
  · rw [if_neg h, decide_eq_false (show ¬ 4 < x.f0.length by omega), Bool.false_or]
    congr 1; rw [Bool.eq_iff_iff, decide_eq_true_iff, decide_eq_true_iff]; omega
theorem down_val (x : S60) (h : bigC x = false) : query_May_3.f x.f0 x.f1 = some (downC x) := by
  unfold bigC at h
  rw [Bool.or_eq_false_iff, decide_eq_false_iff_not, decide_eq_false_iff_not] at h
  have m1 : query_rise.f x.f0 = some (riseB x.f0) := if_pos (by omega)
  have m2 : query_rise.f x.f1 = some (riseB x.f1) := if_pos (by omega)
  unfold query_May_3.f downC
  rw [m1, m2]
  simp only [Option.bind_some]
  cases riseB x.f0 <;> rfl
def fitC (x : S60) : Bool := (x.f0.all fun s => decide (s.size ≤ 9223372036854775807)) && (x.f1.all fun s => decide (s.size ≤ 9223372036854775807))
theorem fitC_iff {x : S60} : fitC x = true ↔ (∀ s ∈ x.f0, s.size ≤ 9223372036854775807) ∧ (∀ s ∈ x.f1, s.size ≤ 9223372036854775807) := by
  unfold fitC; simp only [Bool.and_eq_true, List.all_eq_true, decide_eq_true_eq]
theorem none_calls (x : S60) (A0 : Option Addr) (c0 : Nat) (A1 : Option Addr) (c1 : Nat) (w : World) (h0 : Kd.C Kd.string w A0 x.f0.length x.f0) (h1 : Kd.C Kd.string w A1 x.f1.length x.f1) (hf : fitC x = true) :
    Calls Try.prog 52 #[.agg #[.slice A0 x.f0.length c0, .slice A1 x.f1.length c1]] w fun e w' => e = .returned (.bool (noneC x)) ∧ Below w.heap.size w w' := by
  obtain ⟨hz0, hz1⟩ := fitC_iff.1 hf
  have hu60 := Try.underlying60
  have H0 := Aside0.mk h0
  have H1 := Aside0.mk h1
  have Z0 := Aside0.mk hz0
  have Z1 := Aside0.mk hz1
  obtain ⟨b, hb0⟩ : ∃ b, b = noneC x := ⟨_, rfl⟩
  rw [← hb0]
  have HB0 := Aside0.mk hb0
  clear h0 h1 hz0 hz1 hb0 hf
  go_enter Try.func52, Try.ntmps52
  go_wp2_with (first | ((with_reducible refine gate_dst (N := 1) rfl ?_); (try (refine gate_guard (by rfl) ?_; dsimp only)); refine box_event ?hg (N := 1) ?hd (cs := #[.slice A0 x.f0.length c0, .slice A1 x.f1.length c1]) (t := 60) ?hr ?_; (case hd => rfl); (case hg => rfl); (case hr => first | (go_simp; done) | (go_simp; rfl)); intro g hg_ w2 hbox_ hb_; have HBX := Aside0.mk hbox_; have HBN := Aside0.mk hg_; have HBB := Aside0.mk hb_; clear hbox_ hg_ hb_; have hc0 := blk_cell HBX.out 0; have hf0 := blk_frozen HBX.out 0; have hc1 := blk_cell HBX.out 1; have hf1 := blk_frozen HBX.out 1))
  refine (contStr0 (fun s => !tagB s) 54 A0 c0 x.f0 w2 (Kd.C_below H0.out HBB.out) (enters_of Try.func54 (by kernel_rfl) rfl) (fun s hs w1 _ => query_May_2_1.calls s (!tagB s) w1 (by
    have m : name_MayTag.f s = some (tagB s) := if_pos (Z0.out s hs)
    unfold query_May_2_1.f
    rw [m]; rfl))).mono ?_
  rintro e w3 ⟨rfl, hb⟩
  have n1_ := Aside0.mk (blk_below HBX.out hb)
  have n2_ := Aside0.mk (below_step HBB.out hb)
  clear HBX HBB hb hc0 hc1 hf0 hf1
  have hc1 := blk_cell n1_.out 1
  cases h2 : (x.f0.any fun s => !tagB s) with
  | true =>
    have HR := Aside0.mk (show b = true by rw [HB0.out]; unfold noneC; rw [h2]; rfl)
    clear h2
    go_wp2_with fail
    go_ret
    exact ⟨by rw [HR.out]; rfl, n2_.out⟩
  | false =>
    have HR := Aside0.mk (show b = (x.f1.any fun s => !mayL (bytesOf s)) by rw [HB0.out]; unfold noneC; rw [h2]; rfl)
    clear h2
    go_wp2_with fail
    refine (contStr0 (fun s => !mayL (bytesOf s)) 56 A1 c1 x.f1 w3 (Kd.C_below H1.out n2_.out) (enters_of Try.func56 (by kernel_rfl) rfl) (fun s hs w1 _ => query_May_2_2.calls s (!mayL (bytesOf s)) w1 (by
      have m : name_May.f s = some (mayL (bytesOf s)) := if_pos (Z1.out s hs)
      unfold query_May_2_2.f
      rw [m]; rfl))).mono ?_
    rintro e w4 ⟨rfl, hb⟩
    have n3_ := Aside0.mk (below_step n2_.out hb)
    rw [← HR.out]
    clear hb hc1
    go_wp2_with fail
    go_ret
    exact ⟨rfl, n3_.out⟩
theorem queryMay_calls (A : Option Addr) (c : Nat) (l : List S60) (w : World) (hr : Kd.C k60 w A l.length l) (hc : l.length ≤ c) (hf : ∀ x ∈ l, fitC x = true) :
    Calls Try.prog 26 #[.agg #[.slice A l.length c]] w fun e w' => e = .returned (.int .i64 (mayQ l)) ∧ Below w.heap.size w w' := by
  have hu25 := Try.underlying25
  have HR := Aside0.mk hr
  have HF := Aside0.mk hf
  have hm := Kd.C_max hr
  clear hr hc hf
  obtain ⟨E, hE⟩ : ∃ E, E = mayQ l := ⟨_, rfl⟩
  rw [← hE]
  have HE := Aside0.mk hE
  clear hE
  go_enter Try.func26, Try.ntmps26
  by_cases h4 : 4 < l.length
  · have d1 : decide ((4 : Int) < (l.length : Int)) = true := decide_eq_true (by omega)
    have HG := Aside0.mk (HE.out.trans (if_pos (.inl h4)))
    go_wp2_with (first | ((with_reducible refine gate_dst (N := 1) rfl ?_); (try (refine gate_guard (by rfl) ?_; dsimp only)); refine box_event ?hg (N := 1) ?hd (cs := #[.slice A l.length c]) (t := 25) ?hr ?_; (case hd => rfl); (case hg => rfl); (case hr => first | (go_simp; done) | (go_simp; rfl)); intro g hg_ w2 hbox_ hb_; have HBX := Aside0.mk hbox_; have HBN := Aside0.mk hg_; have HBB := Aside0.mk hb_; clear hbox_ hg_ hb_; have hc0 := blk_cell HBX.out 0; have hf0 := blk_frozen HBX.out 0))
    go_ret
    exact ⟨ret_i64 HG.out.symm, HBB.out⟩
  have d1 : decide ((4 : Int) < (l.length : Int)) = false := decide_eq_false (by omega)
  go_wp2_with (first | ((with_reducible refine gate_dst (N := 1) rfl ?_); (try (refine gate_guard (by rfl) ?_; dsimp only)); refine box_event ?hg (N := 1) ?hd (cs := #[.slice A l.length c]) (t := 25) ?hr ?_; (case hd => rfl); (case hg => rfl); (case hr => first | (go_simp; done) | (go_simp; rfl)); intro g hg_ w2 hbox_ hb_; have HBX := Aside0.mk hbox_; have HBN := Aside0.mk hg_; have HBB := Aside0.mk hb_; clear hbox_ hg_ hb_; have hc0 := blk_cell HBX.out 0; have hf0 := blk_frozen HBX.out 0))
  cases h1 : l.any bigC with
  | true =>
    have HG := Aside0.mk (HE.out.trans (if_pos (.inr h1)))
    refine (some_calls bigC true 51 A c l w2 h1 (Kd.C_below HR.out HBB.out) (enters_of Try.func51 (by kernel_rfl) rfl) (fun x hx w1 _ A0 c0 A1 c1 g0 g1 g2 g3 => query_May_1.calls A0 c0 x.f0 A1 c1 x.f1 (bigC x) w1 g0 g1 g2 g3 (big_val x))).mono ?_
    rintro e w3 ⟨rfl, hb⟩
    have n2_ := Aside0.mk (below_step HBB.out hb)
    clear hb h1
    go_wp2_with fail
    go_ret
    exact ⟨ret_i64 HG.out.symm, n2_.out⟩
  | false =>
  have HE2 := Aside0.mk (HE.out.trans (if_neg (by rw [h1]; simp only [Bool.false_eq_true, or_false]; exact h4)))
  have HBIG : Aside0 (∀ x ∈ l, bigC x = false) := ⟨fun x hx => by have := List.any_eq_false.1 h1 x hx; simpa using this⟩
  refine (some_calls bigC false 51 A c l w2 h1 (Kd.C_below HR.out HBB.out) (enters_of Try.func51 (by kernel_rfl) rfl) (fun x hx w1 _ A0 c0 A1 c1 g0 g1 g2 g3 => query_May_1.calls A0 c0 x.f0 A1 c1 x.f1 (bigC x) w1 g0 g1 g2 g3 (big_val x))).mono ?_
  rintro e w3 ⟨rfl, hb⟩
  have n1_ := Aside0.mk (blk_below HBX.out hb)
  have n2_ := Aside0.mk (below_step HBB.out hb)
  clear HBX HBB hb hc0 hf0 h1 HE
  have HBX := n1_
  have HB := n2_
  clear n1_ n2_
  have hc0 := blk_cell HBX.out 0
  go_wp2_with fail
  cases h2 : l.any noneC with
  | true =>
    have HG := Aside0.mk (HE2.out.trans (if_pos h2))
    refine (some_calls noneC true 52 A c l w3 h2 (Kd.C_below HR.out HB.out) (enters_of Try.func52 (by kernel_rfl) rfl) (fun x hx w1 _ A0 c0 A1 c1 g0 g1 g2 g3 => none_calls x A0 c0 A1 c1 w1 g0 g2 (HF.out x hx))).mono ?_
    rintro e w4 ⟨rfl, hb⟩
    have n2_ := Aside0.mk (below_step HB.out hb)
    clear hb h2
    go_wp2_with fail
    go_ret
    exact ⟨ret_i64 HG.out.symm, n2_.out⟩
  | false =>
  have HE3 := Aside0.mk (HE2.out.trans (if_neg (by rw [h2]; simp)))
  refine (some_calls noneC false 52 A c l w3 h2 (Kd.C_below HR.out HB.out) (enters_of Try.func52 (by kernel_rfl) rfl) (fun x hx w1 _ A0 c0 A1 c1 g0 g1 g2 g3 => none_calls x A0 c0 A1 c1 w1 g0 g2 (HF.out x hx))).mono ?_
  rintro e w4 ⟨rfl, hb⟩
  have n1_ := Aside0.mk (blk_below HBX.out hb)
  have n2_ := Aside0.mk (below_step HB.out hb)
  clear HBX HB hb hc0 h2 HE2
  have HBX := n1_
  have HB := n2_
  clear n1_ n2_
  have hc0 := blk_cell HBX.out 0
  go_wp2_with fail
  cases h3 : l.any downC with
  | true =>
    have HG := Aside0.mk (HE3.out.trans (if_pos h3))
    refine (some_calls downC true 58 A c l w4 h3 (Kd.C_below HR.out HB.out) (enters_of Try.func58 (by kernel_rfl) rfl) (fun x hx w1 _ A0 c0 A1 c1 g0 g1 g2 g3 => query_May_3.calls A0 c0 x.f0 A1 c1 x.f1 (downC x) w1 g0 g1 g2 g3 (down_val x (HBIG.out x hx)))).mono ?_
    rintro e w5 ⟨rfl, hb⟩
    have n2_ := Aside0.mk (below_step HB.out hb)
    clear hb h3
    go_wp2_with fail
    go_ret
    exact ⟨ret_i64 HG.out.symm, n2_.out⟩
  | false =>
    have HG := Aside0.mk (HE3.out.trans (if_neg (by rw [h3]; simp)))
    refine (some_calls downC false 58 A c l w4 h3 (Kd.C_below HR.out HB.out) (enters_of Try.func58 (by kernel_rfl) rfl) (fun x hx w1 _ A0 c0 A1 c1 g0 g1 g2 g3 => query_May_3.calls A0 c0 x.f0 A1 c1 x.f1 (downC x) w1 g0 g1 g2 g3 (down_val x (HBIG.out x hx)))).mono ?_
    rintro e w5 ⟨rfl, hb⟩
    have n2_ := Aside0.mk (below_step HB.out hb)
    clear hb h3
    go_wp2_with fail
    go_ret
    exact ⟨ret_i64 HG.out.symm, n2_.out⟩
end Go.Proofs.Ytdpigeineephlaa.Nam
namespace Go.Proofs.Ytdpigeineephlaa.Prt
open Go.RowKit Go.Proofs.YtdpigeineephlaaW.PrintWords Go.Proofs.YtdpigeineephlaaW.PrintLast Go.Proofs.YtdpigeineephlaaW.PrintMore Go.Proofs.Ytdpigeineephlaa.Num Go.Proofs.Ytdpigeineephlaa.Nam
set_option linter.unusedVariables false
set_option linter.unusedSimpArgs false
def query_May.f (l0_0 : List S60) : Option (Int) := if l0_0.all fitC = true then some (mayQ l0_0) else none
theorem query_May.calls (A0_0 : Option Addr) (c0_0 : Nat) (l0_0 : List (S60)) (r : Int) (w : World) (hr0_0 : Kd.C k60 w A0_0 l0_0.length l0_0) (hc0_0 : l0_0.length ≤ c0_0) (h : query_May.f l0_0 = some r) :
    Calls Try.prog 26 #[.agg #[.slice A0_0 l0_0.length c0_0]] w fun e w' => e = .returned (.int .i64 r) ∧ Below w.heap.size w w' := by
  unfold query_May.f at h
  by_cases hc : l0_0.all fitC = true
  · rw [if_pos hc] at h
    obtain rfl := Option.some.inj h
    exact queryMay_calls A0_0 c0_0 l0_0 w hr0_0 hc0_0 (List.all_eq_true.1 hc)
  · rw [if_neg hc] at h; cases h
end Go.Proofs.Ytdpigeineephlaa.Prt
namespace Go.Proofs.Ytdpigeineephlaa.Prt
open Go.RowKit Go.Proofs.YtdpigeineephlaaW.PrintWords Go.Proofs.YtdpigeineephlaaW.PrintLast Go.Proofs.YtdpigeineephlaaW.PrintMore
attribute [local go_sem] max2_int min2_int max_two min_two max_three min_three max_four min_four   -- for this text's walks alone
set_option linter.unusedVariables false
set_option linter.unusedSimpArgs false

mutual
def qcode_MayDef.j0 : Nat → Bool → Int → ByteArray → List (S60) → Option (Int)
  | 0, _, _, _, _ => none
  | k + 1, x11, x214000, x214001, x214002 => if x11 = true then (some 1) else ((query_May.f x214002).bind fun t214 => (if t214 = 0 then (if x214000 = 2 then (qcode_MayDef.j1 k (x214000 == 2) x214000 x214001 x214002) else (qcode_MayDef.j1 k (x214000 == 3) x214000 x214001 x214002)) else (some t214)))
def qcode_MayDef.j1 : Nat → Bool → Int → ByteArray → List (S60) → Option (Int)
  | 0, _, _, _, _ => none
  | k + 1, x23, x214000, x214001, x214002 => if x23 = true then ((name_May.f x214001).bind fun t215 => (if t215 = true then (some 0) else (some 5))) else (if x214001.toList = ([] : List UInt8) then (some 0) else (some 5))
end
def qcode_MayDef.f (k : Nat) (a0_0 : Int) (a0_1 : ByteArray) (l0_2 : List (S60)) : Option (Int) := if a0_0 < 1 then (qcode_MayDef.j0 k true a0_0 a0_1 l0_2) else (qcode_MayDef.j0 k (decide (a0_0 > 4)) a0_0 a0_1 l0_2)
set_option maxHeartbeats 8000000 in
set_option maxRecDepth 100000 in
theorem qcode_MayDef.calls (k : Nat) (a0_0 : Int) (a0_1 : ByteArray) (A0_2 : Option Addr) (c0_2 : Nat) (l0_2 : List (S60)) (r : Int) (w : World) (hr0_2 : Kd.C k60 w A0_2 l0_2.length l0_2) (hc0_2 : l0_2.length ≤ c0_2) (h : qcode_MayDef.f k a0_0 a0_1 l0_2 = some r) :
    Calls Try.prog 16 #[.agg #[.int .i64 a0_0, .string a0_1, .slice A0_2 l0_2.length c0_2]] w fun e w' => e = .returned (.int .i64 r) ∧ Below w.heap.size w w' := by
  have hu36 := Try.underlying36
  have hu25 := Try.underlying25
  have HR0_2 := Aside0.mk hr0_2
  have HC0_2 := Aside0.mk hc0_2
  clear hr0_2 hc0_2
  have HB := Aside0.mk (Below.refl w.heap.size w)
  have H : (if a0_0 < 1 then (qcode_MayDef.j0 k true a0_0 a0_1 l0_2) else (qcode_MayDef.j0 k (decide (a0_0 > 4)) a0_0 a0_1 l0_2)) = some r := h
  clear h
  have HC2 := Aside0.mk H
  clear H
  go_enter Try.func16, Try.ntmps16
  go_upto_region 1 with (first | ((with_reducible refine gate_dst (N := 1) rfl ?_); refine box_event ?hg (N := 1) ?hd (cs := #[.int .i64 a0_0, .string a0_1, .slice A0_2 l0_2.length c0_2]) (t := 36) ?hr ?_; (case hd => rfl); (case hg => rfl); (case hr => first | (go_simp; done) | (go_simp; rfl)); intro gb213 hg w3 hbox hb; have n0_ := Aside0.mk (below_step (by repeat (first | (with_reducible first | exact HB.out | apply below_alloc | apply pw_below_drewN | apply below_drew1) | exact HB.out)) hb); have n1_ := Aside0.mk (hbox); have n2_ := Aside0.mk ((by rw [hg]; exact (below_size (by repeat (first | (with_reducible first | exact HB.out | apply below_alloc | apply pw_below_drewN | apply below_drew1) | exact HB.out))) : w.heap.size ≤ gb213)); have n3_ := Aside0.mk ((by rw [hg]; exact (below_size (by repeat (first | (with_reducible first | exact HB.out | apply below_alloc | apply pw_below_drewN | apply below_drew1) | exact HB.out))) : w.heap.size ≤ gb213)); clear HB; have HB := n0_; have BK213 := n1_; have GW213 := n2_; have GE213 := n3_; clear n0_ n1_ n2_ n3_; clear hb hbox hg))
  (try simp only [Act.put, List.setIfInBounds_toArray, List.set_cons_zero, List.set_cons_succ])
  go_cut [11] (fun v11 wc => ∃ (kq : Nat) (x11_1 : Bool), v11 = .bool x11_1 ∧ Aside0 (qcode_MayDef.j0 kq x11_1 a0_0 a0_1 l0_2 = some r) ∧ Aside0 (kq ≤ k) ∧ Aside0 (wc.heap[gb213]? = some (.cells #[.int .i64 a0_0, .string a0_1, (.slice A0_2 l0_2.length c0_2)] 36 (0, 0))) ∧ Aside0 (Below w.heap.size w wc))
  case first =>
    have H := HC2.out
    clear HC2
    by_cases c4 : a0_0 < 1
    · rw [if_pos c4] at H
      have c4b0 : decide (a0_0 < 1) = true := decide_eq_true c4
      clear c4
      (first | rw [c4b0] | (simp only [i64_w, i32_w]; rw [c4b0]) | skip)
      have H' := Aside0.mk H
      clear H
      have hcz5_0 : w3.cell? ⟨gb213, 0, none⟩ = some (.int .i64 a0_0) := (blk_cell BK213.out 0).trans rfl
      have hcz5_1 : w3.cell? ⟨gb213, 1, none⟩ = some (.string a0_1) := (blk_cell BK213.out 1).trans rfl
      have hcz5_2 : w3.cell? ⟨gb213, 2, none⟩ = some (.slice A0_2 l0_2.length c0_2) := (blk_cell BK213.out 2).trans rfl
      have hfz5_0 := blk_frozen BK213.out 0
      have hfz5_1 := blk_frozen BK213.out 1
      have hfz5_2 := blk_frozen BK213.out 2
      go_wp2
      go_meet
      case rel => exact ⟨_, (true), (by first | rfl | (simp; done) | (simp [*]; done)), H', ⟨by first | omega | exact Nat.le_refl _⟩, ⟨by (with_reducible repeat (first | refine blk_drewN ?_ _ | refine blk_drew ?_ | refine blk_alloc ?_ _)); exact BK213.out⟩, ⟨by repeat (first | (with_reducible first | exact HB.out | apply below_alloc | apply pw_below_drewN | apply below_drew1 | refine below_set ?_ GE213.out) | exact HB.out)⟩⟩
    · rw [if_neg c4] at H
      have c4b0 : decide (a0_0 < 1) = false := decide_eq_false c4
      clear c4
      (first | rw [c4b0] | (simp only [i64_w, i32_w]; rw [c4b0]) | skip)
      have H' := Aside0.mk H
      clear H
      have hcz6_0 : w3.cell? ⟨gb213, 0, none⟩ = some (.int .i64 a0_0) := (blk_cell BK213.out 0).trans rfl
      have hcz6_1 : w3.cell? ⟨gb213, 1, none⟩ = some (.string a0_1) := (blk_cell BK213.out 1).trans rfl
      have hcz6_2 : w3.cell? ⟨gb213, 2, none⟩ = some (.slice A0_2 l0_2.length c0_2) := (blk_cell BK213.out 2).trans rfl
      have hfz6_0 := blk_frozen BK213.out 0
      have hfz6_1 := blk_frozen BK213.out 1
      have hfz6_2 := blk_frozen BK213.out 2
      go_wp2
      go_meet
      case rel => exact ⟨_, (decide (a0_0 > 4)), (by first | rfl | (simp; done) | (simp [*]; done)), H', ⟨by first | omega | exact Nat.le_refl _⟩, ⟨by (with_reducible repeat (first | refine blk_drewN ?_ _ | refine blk_drew ?_ | refine blk_alloc ?_ _)); exact BK213.out⟩, ⟨by repeat (first | (with_reducible first | exact HB.out | apply below_alloc | apply pw_below_drewN | apply below_drew1 | refine below_set ?_ GE213.out) | exact HB.out)⟩⟩
  case rest =>
    clear HC2
    try clear c1
    try clear p2
    try clear c4
    try clear c4b0
    try clear hcz5_0
    try clear hcz5_1
    try clear hcz5_2
    try clear hcz6_0
    try clear hcz6_1
    try clear hcz6_2
    try clear hfz5_0
    try clear hfz5_1
    try clear hfz5_2
    try clear hfz6_0
    try clear hfz6_1
    try clear hfz6_2
    obtain ⟨kq, x11_1, rfl, HA, HJ1, BK213, HB⟩ := hcut
    cases kq with
    | zero => exact absurd HA.out (by simp [qcode_MayDef.j0])
    | succ kj1 =>
      have H := HA.out
      clear HA
      simp only [qcode_MayDef.j0] at H
      by_cases c7 : x11_1 = true
      · subst c7
        have H1 : (some 1) = some r := by rw [if_pos rfl] at H; exact H
        clear H
        have H := H1
        clear H1
        obtain rfl := Option.some.inj H
        go_wp2
        go_ret
        exact ⟨by first | rfl | (simp [errW_none, errW_some] <;> rfl) | (simp [*, errW_none, errW_some] <;> rfl), by repeat (first | (with_reducible first | exact HB.out | apply below_alloc | apply pw_below_drewN | apply below_drew1 | refine below_set ?_ GE213.out) | exact HB.out)⟩
      · replace c7 := Bool.eq_false_iff.mpr c7
        subst c7
        have H1 : ((query_May.f l0_2).bind fun t214 => (if t214 = 0 then (if a0_0 = 2 then (qcode_MayDef.j1 kj1 (a0_0 == 2) a0_0 a0_1 l0_2) else (qcode_MayDef.j1 kj1 (a0_0 == 3) a0_0 a0_1 l0_2)) else (some t214))) = some r := by rw [if_neg (show ¬ (false = true) by decide)] at H; exact H
        clear H
        have H := H1
        clear H1
        replace H := Option.bind_eq_some_iff.mp H
        obtain ⟨t214, A80, H⟩ := H
        replace H : (if t214 = 0 then (if a0_0 = 2 then (qcode_MayDef.j1 kj1 (a0_0 == 2) a0_0 a0_1 l0_2) else (qcode_MayDef.j1 kj1 (a0_0 == 3) a0_0 a0_1 l0_2)) else (some t214)) = some r := H
        have A8 := Aside0.mk A80
        clear A80
        by_cases c9 : t214 = 0
        · rw [if_pos c9] at H
          have c9b0 : (t214 == 0) = true := beq_iff_eq.mpr c9
          have c9b1 : (t214 != 0) = false := bne_eq_false_iff_eq.mpr c9
          clear c9
          have HC10 := Aside0.mk H
          clear H
          have hcz11_0 : wc.cell? ⟨gb213, 0, none⟩ = some (.int .i64 a0_0) := (blk_cell BK213.out 0).trans rfl
          have hcz11_1 : wc.cell? ⟨gb213, 1, none⟩ = some (.string a0_1) := (blk_cell BK213.out 1).trans rfl
          have hcz11_2 : wc.cell? ⟨gb213, 2, none⟩ = some (.slice A0_2 l0_2.length c0_2) := (blk_cell BK213.out 2).trans rfl
          have hfz11_0 := blk_frozen BK213.out 0
          have hfz11_1 := blk_frozen BK213.out 1
          have hfz11_2 := blk_frozen BK213.out 2
          go_upto_if 23 with (first | ((with_reducible refine gate_callee (f := 26) rfl ?_); refine goesL_ (some 14) rfl rfl Try.func26 (by kernel_rfl) rfl #[.agg #[.slice A0_2 l0_2.length c0_2]] rfl (by (try simp only [List.map_toArray, List.map_cons, List.map_nil]); first | done | rfl | (simp only [List.length_drop, List.length_take]; rfl)) ?_; (with_reducible refine (query_May.calls _ _ l0_2 t214 _ ?side1 ?side2 A8.out).mono ?_); (case side1 => repeat (first | exact (Kd.C_below HR0_2.out HB.out) | (with_reducible refine Kd.C_alloc ?_ _) | (with_reducible refine Kd.C_drewN ?_ _) | (with_reducible refine Kd.C_drew ?_))); (case side2 => exact HC0_2.out); rintro e w12 ⟨rfl, hb⟩; refine ⟨_, rfl, ?_⟩; have n0_ := Aside0.mk (blk_below (g := gb213) (o := .cells #[.int .i64 a0_0, .string a0_1, .slice A0_2 l0_2.length c0_2] 36 (0, 0)) (by (with_reducible repeat (first | refine blk_drewN ?_ _ | refine blk_drew ?_ | refine blk_alloc ?_ _)); exact BK213.out) hb); have n1_ := Aside0.mk (below_step (by repeat (first | (with_reducible first | exact HB.out | apply below_alloc | apply pw_below_drewN | apply below_drew1 | refine below_set ?_ GE213.out) | exact HB.out)) hb); clear BK213; clear HB; have BK213 := n0_; have HB := n1_; clear n0_ n1_; (try clear hb); (try clear hb2); (try clear hk); (try clear hi); have hcz13_0 : w12.cell? ⟨gb213, 0, none⟩ = some (.int .i64 a0_0) := (blk_cell BK213.out 0).trans rfl; have hcz13_1 : w12.cell? ⟨gb213, 1, none⟩ = some (.string a0_1) := (blk_cell BK213.out 1).trans rfl; have hcz13_2 : w12.cell? ⟨gb213, 2, none⟩ = some (.slice A0_2 l0_2.length c0_2) := (blk_cell BK213.out 2).trans rfl; have hfz13_0 := blk_frozen BK213.out 0; have hfz13_1 := blk_frozen BK213.out 1; have hfz13_2 := blk_frozen BK213.out 2))
          (try simp only [Act.put, List.setIfInBounds_toArray, List.set_cons_zero, List.set_cons_succ])
          go_cut [23] (fun v23 wc => ∃ (kq : Nat) (x23_9 : Bool), v23 = .bool x23_9 ∧ Aside0 (qcode_MayDef.j1 kq x23_9 a0_0 a0_1 l0_2 = some r) ∧ Aside0 (kq ≤ kj1) ∧ Aside0 (wc.heap[gb213]? = some (.cells #[.int .i64 a0_0, .string a0_1, (.slice A0_2 l0_2.length c0_2)] 36 (0, 0))) ∧ Aside0 (Below w.heap.size w wc))
          case first =>
            have H := HC10.out
            clear HC10
            by_cases c14 : a0_0 = 2
            · rw [if_pos c14] at H
              have c14b0 : (a0_0 == 2) = true := beq_iff_eq.mpr c14
              have c14b1 : (a0_0 != 2) = false := bne_eq_false_iff_eq.mpr c14
              clear c14
              (first | rw [c14b0] | (simp only [i64_w, i32_w]; rw [c14b0]) | skip)
              have H' := Aside0.mk H
              clear H
              go_wp2
              go_meet
              case rel => exact ⟨_, ((a0_0 == 2)), (by first | rfl | (simp; done) | (simp [*]; done)), H', ⟨by have := HJ1.out; first | omega | exact Nat.le_refl _⟩, ⟨by (with_reducible repeat (first | refine blk_drewN ?_ _ | refine blk_drew ?_ | refine blk_alloc ?_ _)); exact BK213.out⟩, ⟨by repeat (first | (with_reducible first | exact HB.out | apply below_alloc | apply pw_below_drewN | apply below_drew1 | refine below_set ?_ GE213.out) | exact HB.out)⟩⟩
            · rw [if_neg c14] at H
              have c14b0 : (a0_0 == 2) = false := beq_eq_false_iff_ne.mpr c14
              have c14b1 : (a0_0 != 2) = true := bne_iff_ne.mpr c14
              (first | rw [c14b0] | (simp only [i64_w, i32_w]; rw [c14b0]) | skip)
              have H' := Aside0.mk H
              clear H
              go_wp2
              go_meet
              case rel => exact ⟨_, ((a0_0 == 3)), (by first | rfl | (simp; done) | (simp [*]; done)), H', ⟨by have := HJ1.out; first | omega | exact Nat.le_refl _⟩, ⟨by (with_reducible repeat (first | refine blk_drewN ?_ _ | refine blk_drew ?_ | refine blk_alloc ?_ _)); exact BK213.out⟩, ⟨by repeat (first | (with_reducible first | exact HB.out | apply below_alloc | apply pw_below_drewN | apply below_drew1 | refine below_set ?_ GE213.out) | exact HB.out)⟩⟩
          case rest =>
            clear HC10
            try clear c1
            try clear c2
            try clear p2
            try clear c4
            try clear c4b0
            try clear c7
            try clear c9
            try clear c9b0
            try clear c9b1
            try clear c14
            try clear c14b0
            try clear c14b1
            try clear hcz11_0
            try clear hcz11_1
            try clear hcz11_2
            try clear hcz13_0
            try clear hcz13_1
            try clear hcz13_2
            try clear hcz5_0
            try clear hcz5_1
            try clear hcz5_2
            try clear hcz6_0
            try clear hcz6_1
            try clear hcz6_2
            try clear hfz11_0
            try clear hfz11_1
            try clear hfz11_2
            try clear hfz13_0
            try clear hfz13_1
            try clear hfz13_2
            try clear hfz5_0
            try clear hfz5_1
            try clear hfz5_2
            try clear hfz6_0
            try clear hfz6_1
            try clear hfz6_2
            try clear p2
            obtain ⟨kq, x23_9, rfl, HA, HJ9, BK213, HB⟩ := hcut
            cases kq with
            | zero => exact absurd HA.out (by simp [qcode_MayDef.j1])
            | succ kj9 =>
              have H := HA.out
              clear HA
              simp only [qcode_MayDef.j1] at H
              by_cases c15 : x23_9 = true
              · subst c15
                have H1 : ((name_May.f a0_1).bind fun t215 => (if t215 = true then (some 0) else (some 5))) = some r := by rw [if_pos rfl] at H; exact H
                clear H
                have H := H1
                clear H1
                replace H := Option.bind_eq_some_iff.mp H
                obtain ⟨t215, A160, H⟩ := H
                replace H : (if t215 = true then (some 0) else (some 5)) = some r := H
                have A16 := Aside0.mk A160
                clear A160
                by_cases c17 : t215 = true
                · subst c17
                  have H1 : (some 0) = some r := by rw [if_pos rfl] at H; exact H
                  clear H
                  have H := H1
                  clear H1
                  obtain rfl := Option.some.inj H
                  have hcz18_0 : wc.cell? ⟨gb213, 0, none⟩ = some (.int .i64 a0_0) := (blk_cell BK213.out 0).trans rfl
                  have hcz18_1 : wc.cell? ⟨gb213, 1, none⟩ = some (.string a0_1) := (blk_cell BK213.out 1).trans rfl
                  have hcz18_2 : wc.cell? ⟨gb213, 2, none⟩ = some (.slice A0_2 l0_2.length c0_2) := (blk_cell BK213.out 2).trans rfl
                  have hfz18_0 := blk_frozen BK213.out 0
                  have hfz18_1 := blk_frozen BK213.out 1
                  have hfz18_2 := blk_frozen BK213.out 2
                  go_wp2_with (first | ((with_reducible refine gate_callee (f := 36) rfl ?_); refine goesL_ (some 28) rfl rfl Try.func36 (by kernel_rfl) rfl #[.string a0_1] rfl (by (try simp only [List.map_toArray, List.map_cons, List.map_nil]); first | done | rfl | (simp only [List.length_drop, List.length_take]; rfl)) ?_; (with_reducible refine (name_May.calls a0_1 true _ A16.out).mono ?_); rintro e w19 ⟨rfl, hb⟩; refine ⟨_, rfl, ?_⟩; have n0_ := Aside0.mk (blk_below (g := gb213) (o := .cells #[.int .i64 a0_0, .string a0_1, .slice A0_2 l0_2.length c0_2] 36 (0, 0)) (by (with_reducible repeat (first | refine blk_drewN ?_ _ | refine blk_drew ?_ | refine blk_alloc ?_ _)); exact BK213.out) hb); have n1_ := Aside0.mk (below_step (by repeat (first | (with_reducible first | exact HB.out | apply below_alloc | apply pw_below_drewN | apply below_drew1 | refine below_set ?_ GE213.out) | exact HB.out)) hb); clear BK213; clear HB; have BK213 := n0_; have HB := n1_; clear n0_ n1_; (try clear hb); (try clear hb2); (try clear hk); (try clear hi)))
                  go_ret
                  exact ⟨by first | rfl | (simp [errW_none, errW_some] <;> rfl) | (simp [*, errW_none, errW_some] <;> rfl), by repeat (first | (with_reducible first | exact HB.out | apply below_alloc | apply pw_below_drewN | apply below_drew1 | refine below_set ?_ GE213.out) | exact HB.out)⟩
                · replace c17 := Bool.eq_false_iff.mpr c17
                  subst c17
                  have H1 : (some 5) = some r := by rw [if_neg (show ¬ (false = true) by decide)] at H; exact H
                  clear H
                  have H := H1
                  clear H1
                  obtain rfl := Option.some.inj H
                  have hcz20_0 : wc.cell? ⟨gb213, 0, none⟩ = some (.int .i64 a0_0) := (blk_cell BK213.out 0).trans rfl
                  have hcz20_1 : wc.cell? ⟨gb213, 1, none⟩ = some (.string a0_1) := (blk_cell BK213.out 1).trans rfl
                  have hcz20_2 : wc.cell? ⟨gb213, 2, none⟩ = some (.slice A0_2 l0_2.length c0_2) := (blk_cell BK213.out 2).trans rfl
                  have hfz20_0 := blk_frozen BK213.out 0
                  have hfz20_1 := blk_frozen BK213.out 1
                  have hfz20_2 := blk_frozen BK213.out 2
                  go_wp2_with (first | ((with_reducible refine gate_callee (f := 36) rfl ?_); refine goesL_ (some 28) rfl rfl Try.func36 (by kernel_rfl) rfl #[.string a0_1] rfl (by (try simp only [List.map_toArray, List.map_cons, List.map_nil]); first | done | rfl | (simp only [List.length_drop, List.length_take]; rfl)) ?_; (with_reducible refine (name_May.calls a0_1 false _ A16.out).mono ?_); rintro e w21 ⟨rfl, hb⟩; refine ⟨_, rfl, ?_⟩; have n0_ := Aside0.mk (blk_below (g := gb213) (o := .cells #[.int .i64 a0_0, .string a0_1, .slice A0_2 l0_2.length c0_2] 36 (0, 0)) (by (with_reducible repeat (first | refine blk_drewN ?_ _ | refine blk_drew ?_ | refine blk_alloc ?_ _)); exact BK213.out) hb); have n1_ := Aside0.mk (below_step (by repeat (first | (with_reducible first | exact HB.out | apply below_alloc | apply pw_below_drewN | apply below_drew1 | refine below_set ?_ GE213.out) | exact HB.out)) hb); clear BK213; clear HB; have BK213 := n0_; have HB := n1_; clear n0_ n1_; (try clear hb); (try clear hb2); (try clear hk); (try clear hi)))
                  go_ret
                  exact ⟨by first | rfl | (simp [errW_none, errW_some] <;> rfl) | (simp [*, errW_none, errW_some] <;> rfl), by repeat (first | (with_reducible first | exact HB.out | apply below_alloc | apply pw_below_drewN | apply below_drew1 | refine below_set ?_ GE213.out) | exact HB.out)⟩
              · replace c15 := Bool.eq_false_iff.mpr c15
                subst c15
                have H1 : (if a0_1.toList = ([] : List UInt8) then (some 0) else (some 5)) = some r := by rw [if_neg (show ¬ (false = true) by decide)] at H; exact H
                clear H
                have H := H1
                clear H1
                by_cases c22 : a0_1.toList = ([] : List UInt8)
                · rw [if_pos c22] at H
                  have c22b0 : (a0_1.toList == ([] : List UInt8)) = true := beq_iff_eq.mpr c22
                  have c22b1 : (a0_1.toList != ([] : List UInt8)) = false := bne_eq_false_iff_eq.mpr c22
                  clear c22
                  obtain rfl := Option.some.inj H
                  have hcz23_0 : wc.cell? ⟨gb213, 0, none⟩ = some (.int .i64 a0_0) := (blk_cell BK213.out 0).trans rfl
                  have hcz23_1 : wc.cell? ⟨gb213, 1, none⟩ = some (.string a0_1) := (blk_cell BK213.out 1).trans rfl
                  have hcz23_2 : wc.cell? ⟨gb213, 2, none⟩ = some (.slice A0_2 l0_2.length c0_2) := (blk_cell BK213.out 2).trans rfl
                  have hfz23_0 := blk_frozen BK213.out 0
                  have hfz23_1 := blk_frozen BK213.out 1
                  have hfz23_2 := blk_frozen BK213.out 2
                  go_wp2
                  go_ret
                  exact ⟨by first | rfl | (simp [errW_none, errW_some] <;> rfl) | (simp [*, errW_none, errW_some] <;> rfl), by repeat (first | (with_reducible first | exact HB.out | apply below_alloc | apply pw_below_drewN | apply below_drew1 | refine below_set ?_ GE213.out) | exact HB.out)⟩
                · rw [if_neg c22] at H
                  have c22b0 : (a0_1.toList == ([] : List UInt8)) = false := beq_eq_false_iff_ne.mpr c22
                  have c22b1 : (a0_1.toList != ([] : List UInt8)) = true := bne_iff_ne.mpr c22
                  obtain rfl := Option.some.inj H
                  have hcz24_0 : wc.cell? ⟨gb213, 0, none⟩ = some (.int .i64 a0_0) := (blk_cell BK213.out 0).trans rfl
                  have hcz24_1 : wc.cell? ⟨gb213, 1, none⟩ = some (.string a0_1) := (blk_cell BK213.out 1).trans rfl
                  have hcz24_2 : wc.cell? ⟨gb213, 2, none⟩ = some (.slice A0_2 l0_2.length c0_2) := (blk_cell BK213.out 2).trans rfl
                  have hfz24_0 := blk_frozen BK213.out 0
                  have hfz24_1 := blk_frozen BK213.out 1
                  have hfz24_2 := blk_frozen BK213.out 2
                  go_wp2
                  go_ret
                  exact ⟨by first | rfl | (simp [errW_none, errW_some] <;> rfl) | (simp [*, errW_none, errW_some] <;> rfl), by repeat (first | (with_reducible first | exact HB.out | apply below_alloc | apply pw_below_drewN | apply below_drew1 | refine below_set ?_ GE213.out) | exact HB.out)⟩
        · rw [if_neg c9] at H
          have c9b0 : (t214 == 0) = false := beq_eq_false_iff_ne.mpr c9
          have c9b1 : (t214 != 0) = true := bne_iff_ne.mpr c9
          obtain rfl := Option.some.inj H
          have hcz25_0 : wc.cell? ⟨gb213, 0, none⟩ = some (.int .i64 a0_0) := (blk_cell BK213.out 0).trans rfl
          have hcz25_1 : wc.cell? ⟨gb213, 1, none⟩ = some (.string a0_1) := (blk_cell BK213.out 1).trans rfl
          have hcz25_2 : wc.cell? ⟨gb213, 2, none⟩ = some (.slice A0_2 l0_2.length c0_2) := (blk_cell BK213.out 2).trans rfl
          have hfz25_0 := blk_frozen BK213.out 0
          have hfz25_1 := blk_frozen BK213.out 1
          have hfz25_2 := blk_frozen BK213.out 2
          go_wp2_with (first | ((with_reducible refine gate_callee (f := 26) rfl ?_); refine goesL_ (some 14) rfl rfl Try.func26 (by kernel_rfl) rfl #[.agg #[.slice A0_2 l0_2.length c0_2]] rfl (by (try simp only [List.map_toArray, List.map_cons, List.map_nil]); first | done | rfl | (simp only [List.length_drop, List.length_take]; rfl)) ?_; (with_reducible refine (query_May.calls _ _ l0_2 t214 _ ?side1 ?side2 A8.out).mono ?_); (case side1 => repeat (first | exact (Kd.C_below HR0_2.out HB.out) | (with_reducible refine Kd.C_alloc ?_ _) | (with_reducible refine Kd.C_drewN ?_ _) | (with_reducible refine Kd.C_drew ?_))); (case side2 => exact HC0_2.out); rintro e w26 ⟨rfl, hb⟩; refine ⟨_, rfl, ?_⟩; have n0_ := Aside0.mk (blk_below (g := gb213) (o := .cells #[.int .i64 a0_0, .string a0_1, .slice A0_2 l0_2.length c0_2] 36 (0, 0)) (by (with_reducible repeat (first | refine blk_drewN ?_ _ | refine blk_drew ?_ | refine blk_alloc ?_ _)); exact BK213.out) hb); have n1_ := Aside0.mk (below_step (by repeat (first | (with_reducible first | exact HB.out | apply below_alloc | apply pw_below_drewN | apply below_drew1 | refine below_set ?_ GE213.out) | exact HB.out)) hb); clear BK213; clear HB; have BK213 := n0_; have HB := n1_; clear n0_ n1_; (try clear hb); (try clear hb2); (try clear hk); (try clear hi)))
          go_ret
          exact ⟨by first | rfl | (simp [errW_none, errW_some] <;> rfl) | (simp [*, errW_none, errW_some] <;> rfl), by repeat (first | (with_reducible first | exact HB.out | apply below_alloc | apply pw_below_drewN | apply below_drew1 | refine below_set ?_ GE213.out) | exact HB.out)⟩

end Go.Proofs.Ytdpigeineephlaa.Prt
namespace Go.Proofs.Ytdpigeineephlaa.Prt
open Go.RowKit Go.Proofs.YtdpigeineephlaaW.PrintWords Go.Proofs.YtdpigeineephlaaW.PrintLast Go.Proofs.YtdpigeineephlaaW.PrintMore Go.Proofs.Ytdpigeineephlaa.Num Go.Proofs.Ytdpigeineephlaa.Nam
set_option linter.unusedVariables false
set_option linter.unusedSimpArgs false

/-- What is wrong with a projection. -/
def mayD (kind : Int) (field : ByteArray) (q : List S60) : Int :=
  if kind < 1 ∨ 4 < kind then 1 else if mayQ q ≠ 0 then mayQ q else if kind = 2 ∨ kind = 3 then (if mayL (bytesOf field) = true then 0 else 5) else if field.toList = [] then 0 else 5
def qcode_MayDefG.f (a0_0 : Int) (a0_1 : ByteArray) (l0_2 : List (S60)) : Option (Int) := if l0_2.all fitC = true ∧ a0_1.size ≤ 9223372036854775807 then some (mayD a0_0 a0_1 l0_2) else none
theorem qcode_MayDefG.val {a0_0 : Int} {a0_1 : ByteArray} {l0_2 : List (S60)} {r : Int} (h : qcode_MayDefG.f a0_0 a0_1 l0_2 = some r) : ∃ k, qcode_MayDef.f k a0_0 a0_1 l0_2 = some r := by
  unfold qcode_MayDefG.f at h
  by_cases hc : l0_2.all fitC = true ∧ a0_1.size ≤ 9223372036854775807
  · rw [if_pos hc] at h
    rw [← h]
    have m1 : query_May.f l0_2 = some (mayQ l0_2) := if_pos hc.1
    have m2 : name_May.f a0_1 = some (mayL (bytesOf a0_1)) := if_pos hc.2
    refine ⟨2, ?_⟩
    unfold qcode_MayDef.f mayD
    by_cases c1 : a0_0 < 1
    · rw [if_pos c1, qcode_MayDef.j0, if_pos rfl, if_pos (.inl c1)]
    rw [if_neg c1]
    by_cases c2 : 4 < a0_0
    · rw [decide_eq_true (show a0_0 > 4 by omega), qcode_MayDef.j0, if_pos rfl, if_pos (.inr c2)]
    rw [decide_eq_false (show ¬ (a0_0 > 4) by omega), qcode_MayDef.j0, if_neg (show ¬ (false = true) by decide), m1, if_neg (show ¬ (a0_0 < 1 ∨ 4 < a0_0) by omega)]
    simp only [Option.bind_some]
    by_cases c3 : mayQ l0_2 = 0
    · rw [if_pos c3, if_neg (show ¬ (mayQ l0_2 ≠ 0) by simpa using c3)]
      by_cases c4 : a0_0 = 2
      · rw [if_pos c4, show (a0_0 == 2) = true from beq_iff_eq.2 c4, qcode_MayDef.j1, if_pos rfl, m2, if_pos (.inl c4)]
        simp only [Option.bind_some]
        cases mayL (bytesOf a0_1) <;> rfl
      · rw [if_neg c4]
        by_cases c5 : a0_0 = 3
        · rw [show (a0_0 == 3) = true from beq_iff_eq.2 c5, qcode_MayDef.j1, if_pos rfl, m2, if_pos (.inr c5)]
          simp only [Option.bind_some]
          cases mayL (bytesOf a0_1) <;> rfl
        · rw [show (a0_0 == 3) = false from beq_eq_false_iff_ne.2 c5, qcode_MayDef.j1, if_neg (show ¬ (false = true) by decide), if_neg (show ¬ (a0_0 = 2 ∨ a0_0 = 3) by omega)]
          by_cases c6 : a0_1.toList = []
          · rw [if_pos c6, if_pos c6]
          · rw [if_neg c6, if_neg c6]
    · rw [if_neg c3, if_pos c3]
  · rw [if_neg hc] at h; cases h
theorem qcode_MayDefG.calls (a0_0 : Int) (a0_1 : ByteArray) (A0_2 : Option Addr) (c0_2 : Nat) (l0_2 : List (S60)) (r : Int) (w : World) (hr0_2 : Kd.C k60 w A0_2 l0_2.length l0_2) (hc0_2 : l0_2.length ≤ c0_2) (h : qcode_MayDefG.f a0_0 a0_1 l0_2 = some r) :
    Calls Try.prog 16 #[.agg #[.int .i64 a0_0, .string a0_1, .slice A0_2 l0_2.length c0_2]] w fun e w' => e = .returned (.int .i64 r) ∧ Below w.heap.size w w' := by
  obtain ⟨k, hk⟩ := qcode_MayDefG.val h
  exact qcode_MayDef.calls k a0_0 a0_1 A0_2 c0_2 l0_2 r w hr0_2 hc0_2 hk
end Go.Proofs.Ytdpigeineephlaa.Prt
namespace Go.Proofs.Ytdpigeineephlaa.Nam
open Go.RowKit Go.Proofs.YtdpigeineephlaaW.PrintWords Go.Proofs.YtdpigeineephlaaW.PrintLast Go.Proofs.YtdpigeineephlaaW.PrintMore Go.Proofs.Ytdpigeineephlaa.Num Go.Proofs.Ytdpigeineephlaa.Prt
set_option linter.unusedVariables false
set_option linter.unusedSimpArgs false

set_option maxRecDepth 100000 in
/-- qcode.list: as many as there are, each by a function. -/
theorem listDef (f : S36 → List Int) (G : Nat) (A0 : Option Addr) (c0 : Nat) (l0 : List Int) (A : Option Addr) (c : Nat) (l : List S36) (w : World) (hr0 : Kd.C (Kd.int .u8) w A0 l0.length l0) (hc0 : l0.length ≤ c0) (hC : Kd.C k36 w A l.length l) (hb : l0.length + ((enc (l.length : Int)).length + (l.flatMap f).length) ≤ 1000000000000)
    (hent : ∀ (xs : Array Value) (W : World), (callFunc G xs).run Try.prog W = .ok (.enter G xs) W)
    (hf : ∀ x ∈ l, ∀ w1, Below w.heap.size w w1 → ∀ A' c' l', Kd.C (Kd.int .u8) w1 A' l'.length l' → l'.length ≤ c' → l'.length + (f x).length ≤ 1000000000000 → ∀ P2 q2, Kd.C k60 w1 P2 x.f2.f0.length x.f2.f0 → x.f2.f0.length ≤ q2 → Calls Try.prog G #[.slice A' l'.length c', .agg #[.int .i64 x.f0, .string x.f1, .slice P2 x.f2.f0.length q2]] w1 fun e w2 => ∃ v, e = .returned v ∧ Kd.R (Kd.int .u8) 5 w2 w1.heap.size (fun _ => True) v (l' ++ f x) ∧ Below w1.heap.size w1 w2) :
    Calls Try.prog 31 #[.slice A0 l0.length c0, .slice A l.length c, .func (.func G) #[] #[]] w fun e w' => ∃ v, e = .returned v ∧ Kd.R (Kd.int .u8) 5 w' w.heap.size (fun _ => True) v (l0 ++ (enc (l.length : Int) ++ l.flatMap f)) ∧ Below w.heap.size w w' := by
  have hm := Kd.C_max hC
  have HC := Aside0.mk hC
  have HF := Aside0.mk hf
  have HP := Aside0.mk (num_Put.calls A0 c0 l0 (l.length : Int) (l0 ++ enc (l.length : Int)) w hr0 hc0 (if_pos ⟨by omega, by omega, by omega⟩))
  have HBD := Aside0.mk hb
  clear hr0 hc0 hC hb hf
  have hu36 := Try.underlying36
  have hu25 := Try.underlying25
  go_enter Try.func31, Try.ntmps31
  go_wp2_with fail
  refine HP.out.mono ?_
  rintro e w1 ⟨v1, rfl, ho, hb⟩
  have HO1 := Aside0.mk (show Kd.R (Kd.int .u8) 5 w1 w.heap.size (fun _ => True) v1 (l0 ++ (enc (l.length : Int) ++ (l.take 0).flatMap f)) by rw [List.take_zero, List.flatMap_nil, List.append_nil]; exact ho)
  have HB1 := Aside0.mk hb
  clear ho hb HP
  go_wp2_with fail
  go_loopg [7, 16] (l.length + 1) (fun k v7 v16 w' => ∃ i : Nat, v16 = .int .i64 (i : Int) ∧ Aside0 (i + k = l.length + 1) ∧ Aside0 (Kd.R (Kd.int .u8) 5 w' w.heap.size (fun _ => True) v7 (l0 ++ (enc (l.length : Int) ++ (l.take i).flatMap f))) ∧ Aside0 (Below w.heap.size w w'))
  case atStart => exact ⟨0, rfl, ⟨by omega⟩, HO1, HB1⟩
  case round =>
    clear HO1 HB1
    obtain ⟨i, rfl, HI, HO, HB⟩ := hrel
    obtain ⟨A7, c7, e7⟩ := Kd.R_slice HO.out
    subst e7
    by_cases hi : i < l.length
    · have d1 : decide ((i : Int) < (l.length : Int)) = true := decide_eq_true (by omega)
      obtain ⟨ad, P2, q2, e_, hx, hx1, hx2, hl2, hi2⟩ := at_T36 (Kd.C_below HC.out HB.out) (i : Int) (by omega) (by omega)
      cases e_
      rw [Int.toNat_natCast] at hx hx1 hx2
      obtain ⟨x, hx0⟩ : ∃ x, x = rd_T36 l (i : Int) := ⟨_, rfl⟩
      rw [← hx0] at hx hx1 hx2 hl2 hi2
      have hxm : x ∈ l := by rw [hx0]; exact getD_mem' hi _
      have hxs : (l.take (i + 1)).flatMap f = (l.take i).flatMap f ++ f x := by
        rw [List.take_succ_eq_append_getElem hi, List.flatMap_append]
        congr 1
        rw [hx0]
        unfold rd_T36
        rw [Int.toNat_natCast, List.getD_eq_getElem?_getD, List.getElem?_eq_getElem hi]; simp
      have hbx : (l0 ++ (enc (l.length : Int) ++ (l.take i).flatMap f)).length + (f x).length ≤ 1000000000000 := by
        have h1 : l.flatMap f = (l.take (i + 1)).flatMap f ++ (l.drop (i + 1)).flatMap f := by rw [← List.flatMap_append, List.take_append_drop]
        have h2 := congrArg List.length h1
        rw [hxs] at h2
        simp only [List.length_append] at h2 ⊢
        have := HBD.out
        omega
      have HXS := Aside0.mk hxs
      have HXM := Aside0.mk hxm
      have HBX := Aside0.mk hbx
      have HIL := Aside0.mk hi
      clear hx0 hxm hxs hbx
      obtain ⟨-, hc7, hC7⟩ := Kd.R_reads' HO.out
      obtain ⟨lx, hlx⟩ : ∃ lx, lx = l0 ++ (enc (l.length : Int) ++ (l.take i).flatMap f) := ⟨_, rfl⟩
      rw [← hlx] at HO HBX hc7 hC7
      have HLX := Aside0.mk hlx
      have HC7 := Aside0.mk hC7
      have HK7 := Aside0.mk hc7
      rw [← hlx]
      clear hlx hC7 hc7
      have HI2 := Aside0.mk hi2
      have HL2 := Aside0.mk hl2
      clear hi2 hl2
      go_upto_region 5 with (first | ((with_reducible refine gate_dst (N := 9) rfl ?_); (try (refine gate_guard (by rfl) ?_; dsimp only)); refine box_event ?hg (N := 9) ?hd (cs := #[.int .i64 0, .string (⟨#[]⟩ : ByteArray), .slice none 0 0]) (t := 36) ?hr ?_; (case hd => rfl); (case hg => rfl); (case hr => first | (go_simp; done) | (go_simp; rfl)); intro B hg_ w2 hbox_ hb_; have HBE := Aside0.mk hbox_; have HBM := Aside0.mk hg_; have HBD := Aside0.mk hb_; clear hbox_ hg_ hb_; have hq0 := blk_cell HBE.out 0; have hz0 := blk_frozen HBE.out 0; have hq1 := blk_cell HBE.out 1; have hz1 := blk_frozen HBE.out 1; have hq2 := blk_cell HBE.out 2; have hz2 := blk_frozen HBE.out 2))
      have HGB := Aside0.mk (show w.heap.size ≤ B ∧ wr.heap.size ≤ B from ⟨by rw [HBM.out]; exact HB.out.size, by rw [HBM.out]; exact Nat.le_refl _⟩)
      have n1_ := Aside0.mk (R_setB (R_setB2 (Kd.R_below HO.out HBD.out) HBE.out (by decide) (.int .i64 x.f0) (.string x.f1)) (blk_set (blk_set HBE.out 0 (.int .i64 x.f0)) 1 (.string x.f1)) (by decide) 2 (.slice P2 x.f2.f0.length q2))
      have n2_ := Aside0.mk ((((below_step HB.out HBD.out).setCell (p := ⟨B, 0, none⟩) HGB.out.1 (.int .i64 x.f0)).setCell (p := ⟨B, 1, none⟩) HGB.out.1 (.string x.f1)).setCell (p := ⟨B, 2, none⟩) HGB.out.1 (.slice P2 x.f2.f0.length q2))
      have n3_ := Aside0.mk (((HBD.out.setCell (p := ⟨B, 0, none⟩) HGB.out.2 (.int .i64 x.f0)).setCell (p := ⟨B, 1, none⟩) HGB.out.2 (.string x.f1)).setCell (p := ⟨B, 2, none⟩) HGB.out.2 (.slice P2 x.f2.f0.length q2))
      have n4_ := Aside0.mk (blk_put (cs' := #[.int .i64 x.f0, .string x.f1, .slice P2 x.f2.f0.length q2]) (blk_put (cs' := #[.int .i64 x.f0, .string x.f1, .slice none 0 0]) (blk_put (cs' := #[.int .i64 x.f0, .string (⟨#[]⟩ : ByteArray), .slice none 0 0]) HBE.out 0 (.int .i64 x.f0) rfl) 1 (.string x.f1) rfl) 2 (.slice P2 x.f2.f0.length q2) rfl)
      clear HBE HBD hq0 hq1 hq2 hz0 hz1 hz2 hx hx1 hx2 HO
      generalize ((w2.setCell ⟨B, 0, none⟩ (.int .i64 x.f0)).setCell ⟨B, 1, none⟩ (.string x.f1)).setCell ⟨B, 2, none⟩ (.slice P2 x.f2.f0.length q2) = w3 at n1_ n2_ n3_ n4_ ⊢
      have HB' := HB
      clear HB
      have HB := n2_
      have HO := n1_
      have hq0 := blk_cell n4_.out 0
      have hq1 := blk_cell n4_.out 1
      have hq2 := blk_cell n4_.out 2
      obtain ⟨-, hc7, hC7⟩ := Kd.R_reads' HO.out
      clear HC7 HK7
      have HC7 := Aside0.mk hC7
      have HK7 := Aside0.mk hc7
      clear hc7 hC7
      go_wp2_with fail
      refine (HF.out x HXM.out _ HB.out A7 c7 lx HC7.out HK7.out HBX.out P2 q2 (Kd.C_below HI2.out n3_.out) HL2.out).mono ?_
      rintro e w4 ⟨v4, rfl, ho, hb⟩
      have HB4 := Aside0.mk (below_step HB.out hb)
      have HO4 := Aside0.mk (Kd.R_lower ho HB.out.size)
      clear ho hb
      go_wp2_with fail
      go_roundg (l.length - i)
      case measure => have := HI.out; omega
      case rel => exact ⟨i + 1, by go_num, ⟨by have := HI.out; omega⟩, ⟨by have h := HO4.out; rw [HLX.out, List.append_assoc, List.append_assoc, ← HXS.out] at h; exact h⟩, HB4⟩
    · have d1 : decide ((i : Int) < (l.length : Int)) = false := decide_eq_false (by omega)
      have HT := Aside0.mk (show l.take i = l from List.take_of_length_le (by omega))
      go_wp2_with fail
      go_ret
      exact ⟨_, rfl, by have h := HO.out; rw [HT.out] at h ⊢; exact h, HB.out⟩

end Go.Proofs.Ytdpigeineephlaa.Nam
namespace Go.Proofs.Ytdpigeineephlaa.Prt
open Go.RowKit Go.Proofs.YtdpigeineephlaaW.PrintWords Go.Proofs.YtdpigeineephlaaW.PrintLast Go.Proofs.YtdpigeineephlaaW.PrintMore Go.Proofs.Ytdpigeineephlaa.Num Go.Proofs.Ytdpigeineephlaa.Nam
set_option linter.unusedVariables false
set_option linter.unusedSimpArgs false

/-- What a clause is in which nothing is wrong. -/
structure OkC (x : S60) : Prop where
  h0 : x.f0.length ≤ 4
  h1 : x.f1.length ≤ 4
  ht : ∀ s ∈ x.f0, tagB s = true
  hn : ∀ s ∈ x.f1, mayL (bytesOf s) = true
  r0 : riseB x.f0 = true
  r1 : riseB x.f1 = true
/-- What a query is in which nothing is wrong. -/
structure OkQ (l : List S60) : Prop where
  h4 : l.length ≤ 4
  hc : ∀ x ∈ l, OkC x
theorem any_no {α : Type} {p : α → Bool} {l : List α} (h : ¬ (l.any p = true)) : ∀ x ∈ l, p x = false := fun x hx => by
  cases hp : p x with
  | false => rfl
  | true => exact absurd (List.any_eq_true.2 ⟨x, hx, hp⟩) h
theorem mayQ_zero {l : List S60} : mayQ l = 0 ↔ OkQ l := by
  unfold mayQ
  constructor
  · intro h
    by_cases c1 : 4 < l.length ∨ l.any bigC = true
    · rw [if_pos c1] at h; cases h
    rw [if_neg c1] at h
    by_cases c2 : l.any noneC = true
    · rw [if_pos c2] at h; cases h
    rw [if_neg c2] at h
    by_cases c3 : l.any downC = true
    · rw [if_pos c3] at h; cases h
    rw [not_or] at c1
    refine ⟨by omega, fun x hx => ?_⟩
    have b1 := any_no c1.2 x hx
    have b2 := any_no c2 x hx
    have b3 := any_no c3 x hx
    unfold bigC at b1
    unfold noneC at b2
    unfold downC at b3
    rw [Bool.or_eq_false_iff] at b1 b2 b3
    rw [decide_eq_false_iff_not, decide_eq_false_iff_not] at b1
    refine ⟨by omega, by omega, fun s hs => ?_, fun s hs => ?_, by simpa using b3.1, by simpa using b3.2⟩
    · have := List.any_eq_false.1 b2.1 s hs; simpa using this
    · have := List.any_eq_false.1 b2.2 s hs; simpa using this
  · rintro ⟨h4, hc⟩
    rw [if_neg ?_, if_neg ?_, if_neg ?_]
    · intro c
      obtain ⟨x, hx, h⟩ := List.any_eq_true.1 c
      unfold downC at h
      rw [(hc x hx).r0, (hc x hx).r1] at h; cases h
    · intro c
      obtain ⟨x, hx, h⟩ := List.any_eq_true.1 c
      unfold noneC at h
      rw [Bool.or_eq_true] at h
      rcases h with h | h
      · obtain ⟨s, hs, h⟩ := List.any_eq_true.1 h
        rw [(hc x hx).ht s hs] at h; cases h
      · obtain ⟨s, hs, h⟩ := List.any_eq_true.1 h
        rw [(hc x hx).hn s hs] at h; cases h
    · rintro (c | c)
      · omega
      · obtain ⟨x, hx, h⟩ := List.any_eq_true.1 c
        unfold bigC at h
        have h0 := (hc x hx).h0
        have h1 := (hc x hx).h1
        rw [decide_eq_false (by omega), decide_eq_false (by omega)] at h; cases h
theorem OkC.fit {x : S60} (h : OkC x) : fitC x = true := fitC_iff.2 ⟨fun s hs => by have := tag_size (h.ht s hs); omega, fun s hs => by have := may_size (h.hn s hs); omega⟩
theorem OkQ.fit {l : List S60} (h : OkQ l) : l.all fitC = true := List.all_eq_true.2 fun x hx => (h.hc x hx).fit
theorem encL_size (l : List ByteArray) (h4 : l.length ≤ 4) (hs : ∀ s ∈ l, s.size ≤ 49) : (encL l).length ≤ 246 := by
  have h1 : ∀ l : List ByteArray, (∀ s ∈ l, s.size ≤ 49) → (encTs l).length ≤ 59 * l.length := by
    intro l
    induction l with
    | nil => intro _; simp [encTs]
    | cons x r ih =>
      intro hs
      have e : encTs (x :: r) = encT (bytesOf x) ++ encTs r := by unfold encTs; rw [List.flatMap_cons]
      have g1 := hs x (by simp)
      have g2 := encT_len x (by omega)
      have g3 := ih (fun z hz => hs z (by simp [hz]))
      rw [e, List.length_append, List.length_cons]; omega
  have h2 := h1 l hs
  have h3 := enc_len (x := (l.length : Int)) ⟨by omega, by omega⟩
  unfold encL
  rw [List.length_append]; omega
theorem encC_size {x : S60} (h : OkC x) : (encC x).length ≤ 492 := by
  have h1 := encL_size x.f0 h.h0 (fun s hs => tag_size (h.ht s hs))
  have h2 := encL_size x.f1 h.h1 (fun s hs => by have := may_size (h.hn s hs); omega)
  unfold encC
  rw [List.length_append]; omega
theorem flat_size {α : Type} {f : α → List Int} {n : Nat} : ∀ l : List α, (∀ x ∈ l, (f x).length ≤ n) → (l.flatMap f).length ≤ n * l.length
  | [], _ => by simp
  | x :: r, h => by
    have h1 := h x (by simp)
    have h2 := flat_size r (fun z hz => h z (by simp [hz]))
    rw [List.flatMap_cons, List.length_append, List.length_cons, Nat.mul_add]; omega
theorem encQ_size {l : List S60} (h : OkQ l) : (encQ l).length ≤ 2000 := by
  have h4 := h.h4
  have h1 := flat_size (f := encC) l (fun x hx => encC_size (h.hc x hx))
  have h3 := enc_len (x := (l.length : Int)) ⟨by omega, by omega⟩
  unfold encQ
  rw [List.length_append]; omega
/-- What is wrong with a projection, and with the first with which something is. -/
def defE (x : S36) : Int := mayD x.f0 x.f1 x.f2.f0
def firstD : List S36 → Int
  | [] => 0
  | x :: r => if defE x = 0 then firstD r else defE x
def fitD (x : S36) : Bool := x.f2.f0.all fitC && decide (x.f1.size ≤ 9223372036854775807)
theorem fitD_iff {x : S36} : fitD x = true ↔ x.f2.f0.all fitC = true ∧ x.f1.size ≤ 9223372036854775807 := by unfold fitD; rw [Bool.and_eq_true, decide_eq_true_iff]
/-- What a projection is in which nothing is wrong. -/
structure OkD (x : S36) : Prop where
  k1 : 1 ≤ x.f0
  k4 : x.f0 ≤ 4
  hq : OkQ x.f2.f0
  hf : x.f0 = 2 ∨ x.f0 = 3 → mayL (bytesOf x.f1) = true
  hn : ¬ (x.f0 = 2 ∨ x.f0 = 3) → x.f1.toList = []
theorem defE_zero {x : S36} : defE x = 0 ↔ OkD x := by
  unfold defE mayD
  constructor
  · intro h
    by_cases c1 : x.f0 < 1 ∨ 4 < x.f0
    · rw [if_pos c1] at h; cases h
    rw [if_neg c1] at h
    by_cases c2 : mayQ x.f2.f0 ≠ 0
    · rw [if_pos c2] at h; exact absurd h c2
    rw [if_neg c2] at h
    refine ⟨by omega, by omega, mayQ_zero.1 (by simpa using c2), fun c => ?_, fun c => ?_⟩
    · rw [if_pos c] at h
      by_cases c4 : mayL (bytesOf x.f1) = true
      · exact c4
      · rw [if_neg c4] at h; cases h
    · rw [if_neg c] at h
      by_cases c4 : x.f1.toList = []
      · exact c4
      · rw [if_neg c4] at h; cases h
  · rintro ⟨k1, k4, hq, hf, hn⟩
    rw [if_neg (by omega), if_neg (by rw [mayQ_zero.2 hq]; simp)]
    by_cases c : x.f0 = 2 ∨ x.f0 = 3
    · rw [if_pos c, if_pos (hf c)]
    · rw [if_neg c, if_pos (hn c)]
theorem firstD_zero {l : List S36} : firstD l = 0 ↔ ∀ x ∈ l, OkD x := by
  induction l with
  | nil => simp [firstD]
  | cons x r ih =>
    rw [firstD]
    by_cases h : defE x = 0
    · rw [if_pos h, ih]
      simp only [List.mem_cons, forall_eq_or_imp]
      exact ⟨fun g => ⟨defE_zero.1 h, g⟩, fun g => g.2⟩
    · rw [if_neg h]
      exact ⟨fun g => absurd g h, fun g => absurd (defE_zero.2 (g x (by simp))) h⟩
theorem empty_size {s : ByteArray} (h : s.toList = []) : s.size = 0 := by
  have h2 : s.toList.length = s.size := by rw [Lib.toList_data]; rfl
  rw [h] at h2; exact h2.symm
theorem OkD.size {x : S36} (h : OkD x) : x.f1.size ≤ 24 := by
  by_cases c : x.f0 = 2 ∨ x.f0 = 3
  · exact may_size (h.hf c)
  · have := empty_size (h.hn c); omega
/-- Projections as bytes. -/
def encD (x : S36) : List Int := enc x.f0 ++ (encT (bytesOf x.f1) ++ encQ x.f2.f0)
def encDs (l : List S36) : List Int := enc (l.length : Int) ++ l.flatMap encD
theorem encD_size {x : S36} (h : OkD x) : (encD x).length ≤ 2100 := by
  have k1 := h.k1
  have k4 := h.k4
  have h1 := enc_len (x := x.f0) ⟨by omega, by omega⟩
  have h2 := encT_len x.f1 (by have := h.size; omega)
  have h3 := encQ_size h.hq
  have h4 := h.size
  unfold encD
  rw [List.length_append, List.length_append]; omega
theorem encDs_size {l : List S36} (h4 : l.length ≤ 4) (h : ∀ x ∈ l, OkD x) : (encDs l).length ≤ 9000 := by
  have h1 := flat_size (f := encD) l (fun x hx => encD_size (h x hx))
  have h3 := enc_len (x := (l.length : Int)) ⟨by omega, by omega⟩
  unfold encDs
  rw [List.length_append]; omega
theorem drop_rdD (l : List S36) (i : Nat) (h : i < l.length) : l.drop i = rd_T36 l (i : Int) :: l.drop (i + 1) := by
  rw [List.drop_eq_getElem_cons h]
  unfold rd_T36
  rw [Int.toNat_natCast, List.getD_eq_getElem?_getD, List.getElem?_eq_getElem h]; rfl
theorem rdD_mem {l : List S36} {i : Nat} (h : i < l.length) : rd_T36 l (i : Int) ∈ l := getD_mem' h _
theorem firstD_yes {l : List S36} {i : Nat} (h : i < l.length) (h0 : defE (rd_T36 l (i : Int)) = 0) : firstD (l.drop i) = firstD (l.drop (i + 1)) := by rw [drop_rdD l i h, firstD, if_pos h0]
theorem firstD_no {l : List S36} {i : Nat} (h : i < l.length) (h0 : defE (rd_T36 l (i : Int)) ≠ 0) : firstD (l.drop i) = defE (rd_T36 l (i : Int)) := by rw [drop_rdD l i h, firstD, if_neg h0]
def putDs (l : List S36) : List Int × Int := if 4 < l.length then ([], 3) else if firstD l ≠ 0 then ([], firstD l) else (encDs l, 0)
end Go.Proofs.Ytdpigeineephlaa.Prt

/- strings.Builder: the walks. -/
import Derived.Test.YtkbnckpcllfikaaM1
import Derived.Test.YtkbnckpcllfikaaShelf
namespace Go.Proofs.Ytkbnckpcllfikaa.Nam
open Go.RowKit Go.Proofs.YtkbnckpcllfikaaW.PrintWords Go.Proofs.YtkbnckpcllfikaaW.PrintLast Go.Proofs.YtkbnckpcllfikaaW.PrintMore Go.Proofs.Ytkbnckpcllfikaa.Num Go.Proofs.Ytkbnckpcllfikaa.Prt
set_option linter.unusedVariables false
set_option linter.unusedSimpArgs false

theorem info_u8 : (Try.prog.info? 5).map (fun i => (i.zero, i.size, i.bytes)) = some (some (.int .u8 0), 1, 1) := by kernel_rfl
theorem sizeBuilder : (Try.prog.info? 39).map (·.size) = some 2 := by kernel_rfl
theorem liesBuilder : liesAt Try.prog Try.prog.depth 39 (2 / Try.prog.cellsOf 39) 0 39 1 = true := by kernel_rfl
theorem copyCheck_calls (B : Nat) (v p : Value) (w : World) (hb : w.heap[B]? = some (.cells #[p, v] 39 (0, 0))) (hp : p = .pointer none ∨ p = .pointer (some ⟨B, 0, none⟩)) :
    Calls Try.prog 32 #[.pointer (some ⟨B, 0, none⟩)] w fun e w' => e = .returned (.tuple #[]) ∧ w'.heap[B]? = some (.cells #[.pointer (some ⟨B, 0, none⟩), v] 39 (0, 0)) ∧ KeepBut w w' B none ∧ Below B w w' := by
  have hc0 : w.cell? ⟨B, 0, none⟩ = some p := blk_cell hb 0
  have hf0 := blk_frozen hb 0
  have hu := Try.underlying39
  have hsh : w.shape? B = some (39, 2) := by simp [World.shape?, hb]
  obtain ⟨j, hj, hjs⟩ := Option.map_eq_some_iff.1 sizeBuilder
  have HK := Aside0.mk hb
  clear hb
  rcases hp with rfl | rfl
  · go_enter Try.func32, Try.ntmps32
    go_wp2
    rw [Lib.run_to_unsafe w ⟨B, 0, none⟩ Try.underlying37 Try.underlying54 hj (by rw [hjs]; decide) hsh (Nat.zero_lt_succ 1)]
    simp only [Result.andThen]
    rw [Oper.upon_value]
    go_wp2
    rw [run_callFunc_extern Try.func37 (by kernel_rfl) (by kernel_rfl) (by kernel_rfl) (e := Extern.AbiNoEscape.same) (by kernel_rfl)]
    rw [Lib.run_noEscape]
    simp only [Result.andThen]
    rw [Oper.upon_value]
    go_wp2
    rw [Lib.run_from_unsafe w ⟨B, 0, none⟩ Try.underlying54 Try.underlying37 hj hsh liesBuilder]
    simp only [Result.andThen]
    rw [Oper.upon_value]
    go_wp2
    go_end0
    exact ⟨rfl, by have h := blk_set HK.out 0 (.pointer (some ⟨B, 0, none⟩)); simpa using h, (KeepBut.refl w B none).set_ 0 _, (Below.refl B w).setCell (p := ⟨B, 0, none⟩) (Nat.le_refl B) _⟩
  · go_enter Try.func32, Try.ntmps32
    go_wp2
    rw [Lib.run_neq_ptr_same w _ Try.underlying37 hj]
    go_wp2
    go_end0
    exact ⟨rfl, HK.out, KeepBut.refl _ _ _, Below.refl _ _⟩
/-- The bytes of a letter's rune. -/
def encR (r : Int) : List Int := if r ≤ 127 then [r] else [192 + r / 64, 128 + r % 64]
theorem nonAscii_calls (r : Int) (v : Value) (l0 : List Int) (w0 w : World) (hr : r = 233 ∨ r = 248 ∨ r = 223 ∨ r = 955) (hl : l0.length ≤ 1000000) (hB : Below w0.heap.size w0 w) (ho : Kd.R (Kd.int .u8) 5 w w0.heap.size (fun _ => True) v l0) :
    Calls Try.prog 38 #[v, .int .i32 r] w fun e w' => ∃ v1, e = .returned v1 ∧ Kd.R (Kd.int .u8) 5 w' w0.heap.size (fun _ => True) v1 (l0 ++ encR r) ∧ Below w0.heap.size w0 w' := by
  have HR : Aside0 (128 ≤ r ∧ r ≤ 2047) := ⟨by omega⟩
  have h0 : 0 ≤ r := by omega
  have h1 : r ≤ 2047 := by omega
  have hd : decide (r % 4294967296 ≤ 2047) = true := decide_eq_true (by omega)
  clear hr
  have HB := Aside0.mk hB
  have HO1 := Aside0.mk ho
  clear hB ho
  go_enter Try.func38, Try.ntmps38
  go_wp2_with (first
    | ((with_reducible refine gate_dst (N := 23) rfl ?_); refine Kd.R_lit (Kd.int .u8) _ 5 ?hg (N := 23) ?hd (xs := [192 + r / 64, 128 + r % 64]) (inner := [.int .u8 (192 + r / 64), .int .u8 (128 + r % 64)]) (ok := fun _ => True) (okp := fun _ => True) ?hr ?hp (fun _ hk => hk) trivial (Below.refl _ _) (Nat.le_refl _) (by simp) ?_; (case hd => rfl); (case hg => rfl); (case hr => first | (go_simp; done) | (go_simp; rfl)); (case hp => exact Kd.reps_scalar [192 + r / 64, 128 + r % 64]); intro v2 w2 ho hb hg hat; have n0_ := Aside0.mk (Kd.R_mono (ok' := fun _ => True) (Kd.R_elder' (by (with_reducible repeat (first | apply Kd.R_alloc | apply Kd.R_drewN | apply Kd.R_drew)); exact HO1.out) (Kd.R_base ho) hb) (fun _ _ => trivial)); have n1_ := Aside0.mk (below_step (by repeat (first | (with_reducible first | exact HB.out | apply below_alloc | apply pw_below_drewN | apply below_drew1) | exact HB.out)) hb); obtain ⟨A2, cc2, rfl, hc2, hC2⟩ := Kd.R_reads ho; have HC2 := Aside0.mk hC2; clear HO1 HB ho hb hg hat hC2; have HO1 := n0_; have HB := n1_; clear n0_ n1_)
    | ((with_reducible refine gate_builtin (b := .append) (xs := #[.tmp 14, .tmp 23]) rfl ?_); at_builtin; refine Kd.R_append_rows (Kd.int .u8) (w0 := w0) w0.heap.size rfl (.tmp 14) (.tmp 23) 27 5 (.int .u8 0) 1 rfl Try.underlying27 info_u8 rfl (by decide) (by omega) v l0 [192 + r / 64, 128 + r % 64] _ _ _ (fun _ => True) (fun _ => False) rfl rfl ?aO ?aR (fun _ _ h => h) (fun _ h => h.elim) ?aF ?aB ?aS ?aL ?_; (case aR => exact HC2.out); (case aB => exact (by repeat (first | (with_reducible first | exact HB.out | apply below_alloc | apply pw_below_drewN | apply below_drew1) | exact HB.out))); (case aF => exact (fun _ _ => trivial)); (case aO => exact (by (with_reducible repeat (first | apply Kd.R_alloc | apply Kd.R_drewN | apply Kd.R_drew)); exact HO1.out)); (case aS => exact (below_size (by repeat (first | (with_reducible first | exact HB.out | apply below_alloc | apply pw_below_drewN | apply below_drew1) | exact HB.out)))); (case aL => simp only [List.length_cons, List.length_nil]; omega); intro v3 w3 ho hb hg hat; have n0_ := Aside0.mk (hb); have n1_ := Aside0.mk (ho); clear HB; clear HO1; have HB := n0_; have HO3 := n1_; clear n0_ n1_; clear ho hb hg hat))
  go_ret
  refine ⟨_, rfl, ?_, (by repeat (first | (with_reducible first | exact HB.out | apply below_alloc | apply pw_below_drewN | apply below_drew1) | exact HB.out))⟩
  have e : encR r = [192 + r / 64, 128 + r % 64] := by unfold encR; rw [if_neg (by have := HR.out; omega)]
  rw [e]
  exact (by (with_reducible repeat (first | apply Kd.R_alloc | apply Kd.R_drewN | apply Kd.R_drew)); exact HO3.out)
theorem appendRune_calls (r : Int) (v : Value) (l0 : List Int) (w0 w : World) (hr : (0 ≤ r ∧ r ≤ 127) ∨ r = 233 ∨ r = 248 ∨ r = 223 ∨ r = 955) (hl : l0.length ≤ 1000000) (hB : Below w0.heap.size w0 w) (ho : Kd.R (Kd.int .u8) 5 w w0.heap.size (fun _ => True) v l0) :
    Calls Try.prog 33 #[v, .int .i32 r] w fun e w' => ∃ v1, e = .returned v1 ∧ Kd.R (Kd.int .u8) 5 w' w0.heap.size (fun _ => True) v1 (l0 ++ encR r) ∧ Below w0.heap.size w0 w' := by
  rcases hr with ⟨h0, h1⟩ | hr
  · have hd : decide (r % 4294967296 ≤ 127) = true := decide_eq_true (by omega)
    have HB := Aside0.mk hB
    have HO1 := Aside0.mk ho
    clear hB ho
    go_enter Try.func33, Try.ntmps33
    go_wp2_with (first
      | ((with_reducible refine gate_builtin (b := .append) (xs := #[.tmp 8, .tmp 11]) rfl ?_); at_builtin; refine Kd.R_append (Kd.int .u8) (w0 := w0) w0.heap.size rfl (.tmp 8) (.tmp 11) 27 5 (.int .u8 0) 1 rfl Try.underlying27 info_u8 rfl (by decide) (by omega) v l0 (r) [(.int .u8 (r))] (fun _ => True) (fun _ => False) rfl rfl ?aP (fun _ hk => hk.elim) ?aF ?aO ?aB ?aS ?aL ?_; (case aP => exact rfl); (case aB => exact (by repeat (first | (with_reducible first | exact HB.out | apply below_alloc | apply pw_below_drewN | apply below_drew1) | exact HB.out))); (case aF => exact (fun _ _ => trivial)); (case aO => exact (by (with_reducible repeat (first | apply Kd.R_alloc | apply Kd.R_drewN | apply Kd.R_drew)); exact HO1.out)); (case aS => exact (below_size (by repeat (first | (with_reducible first | exact HB.out | apply below_alloc | apply pw_below_drewN | apply below_drew1) | exact HB.out)))); (case aL => omega); intro v3 w3 ho hb hg hat; have n0_ := Aside0.mk (hb); have n1_ := Aside0.mk (ho); clear HB; clear HO1; have HB := n0_; have HO3 := n1_; clear n0_ n1_; clear ho hb hg hat))
    go_ret
    refine ⟨_, rfl, ?_, (by repeat (first | (with_reducible first | exact HB.out | apply below_alloc | apply pw_below_drewN | apply below_drew1) | exact HB.out))⟩
    have e : encR r = [r] := by unfold encR; rw [if_pos h1]
    rw [e]
    exact (by (with_reducible repeat (first | apply Kd.R_alloc | apply Kd.R_drewN | apply Kd.R_drew)); exact HO3.out)
  · have h0 : 0 ≤ r := by omega
    have h1 : r ≤ 2047 := by omega
    have hd : decide (r ≤ 127) = false := decide_eq_false (by omega)
    have h2 : ¬ r ≤ 127 := by omega
    have HH := Aside0.mk hr
    clear hr
    have HB := Aside0.mk hB
    have HO1 := Aside0.mk ho
    clear hB ho
    go_enter Try.func33, Try.ntmps33
    go_wp2_with (first
      | (go_at_call 38; refine (nonAscii_calls r v l0 w0 _ HH.out hl (by repeat (first | (with_reducible first | exact HB.out | apply below_alloc | apply pw_below_drewN | apply below_drew1) | exact HB.out)) (by (with_reducible repeat (first | apply Kd.R_alloc | apply Kd.R_drewN | apply Kd.R_drew)); exact HO1.out)).mono ?_; rintro e w2 ⟨v2, rfl, ho2, hb2⟩; have HO3 := Aside0.mk ho2; clear HB; have HB := Aside0.mk hb2; clear ho2 hb2))
    go_ret
    exact ⟨_, rfl, (by (with_reducible repeat (first | apply Kd.R_alloc | apply Kd.R_drewN | apply Kd.R_drew)); exact HO3.out), (by repeat (first | (with_reducible first | exact HB.out | apply below_alloc | apply pw_below_drewN | apply below_drew1) | exact HB.out))⟩
end Go.Proofs.Ytkbnckpcllfikaa.Nam

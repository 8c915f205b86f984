/- The statements' own helpers: shown, short. -/
import Derived.Test.YtnkaighdajickaaN3
namespace Go.Proofs.Ytnkaighdajickaa.Num
open Go.RowKit Go.Proofs.YtnkaighdajickaaW.PrintWords Go.Proofs.YtnkaighdajickaaW.PrintLast Go.Proofs.YtnkaighdajickaaW.PrintMore
set_option linter.unusedVariables false
set_option linter.unusedSimpArgs false

theorem enc_0 : enc 0 = [0] := by unfold enc zz; rw [if_neg (by omega), encN_lt (by decide)]; rfl
theorem enc_m1 : enc (-1) = [1] := by unfold enc zz; rw [if_pos (by omega), encN_lt (by decide)]; rfl
theorem enc_64 : enc 64 = [128, 1] := by unfold enc zz; rw [if_neg (by omega), encN_ge (by decide), encN_lt (by decide)]; rfl
theorem dec_64 : dec [128, 1] = some (64, []) := by have := dec_enc (x := 64) ⟨by decide, by decide⟩ []; rwa [enc_64] at this

theorem shown_calls (w : World) : Calls Try.prog 11 #[] w fun e w' => e = .returned (.bool true) ∧ Below w.heap.size w w' := by
  have HB := Aside0.mk (Below.refl w.heap.size w)
  go_enter Try.func11, Try.ntmps11
  go_wp2_with (first
    | ((with_reducible refine gate_dst (N := 2) rfl ?_); refine Kd.R_lit (Kd.int .u8) (w0 := w) w.heap.size 5 ?hg (N := 2) ?hd (xs := [128, 1]) (inner := [.int .u8 128, .int .u8 1]) (ok := fun _ => True) (okp := fun _ => True) ?hr ?hp (fun _ hk => hk) trivial ?hB ?hS (by simp) ?_; (case hd => rfl); (case hg => rfl); (case hr => first | (go_simp; done) | (go_simp; rfl)); (case hp => exact Kd.reps_scalar [128, 1]); (case hB => exact (by repeat (first | (with_reducible first | exact HB.out | apply below_alloc | apply pw_below_drewN | apply below_drew1) | exact HB.out))); (case hS => exact (below_size (by repeat (first | (with_reducible first | exact HB.out | apply below_alloc | apply pw_below_drewN | apply below_drew1) | exact HB.out)))); intro v1 w1 ho hb hg hat; obtain ⟨A1, c1, rfl, hc, hC⟩ := Kd.R_reads ho; have HC1 := Aside0.mk hC; have HL1 := Aside0.mk hc; clear HB; have HB := Aside0.mk hb; have HB0 := Aside0.mk hb; clear hb hg hat hc hC ho)
    | (go_at_call 16; refine (newReader_calls A1 c1 [128, 1] w1 HC1.out HL1.out).mono ?_; rintro e w2 ⟨g, rfl, hI, hb, hg_⟩; have HG := Aside0.mk hg_; have HI := Aside0.mk hI; have HB1 := Aside0.mk hb; have n_ := Aside0.mk (below_step HB.out hb); clear HB; have HB := n_; clear n_ hI hb hg_)
    | (go_at_call 12; refine (put_calls none 0 [] _ _ (Kd.C_nil _ _) (Nat.le_refl _) (by decide) (by decide) (by decide)).mono ?_; rintro e w3 ⟨v3, rfl, ho, hb⟩; obtain ⟨A3, c3, rfl, hc, hC⟩ := Kd.R_reads ho; have HR3 := Aside0.mk hC; have n_ := Aside0.mk (below_step (by repeat (first | (with_reducible first | exact HB.out | apply below_alloc | apply pw_below_drewN | apply below_drew1) | exact HB.out)) hb); have n1_ := Aside0.mk (Rd.below (HI.out) hb); have n2_ := Aside0.mk (below_then HB1.out (HB1.out.size) hb); clear HB HI HB1; have HB := n_; have HI := n1_; have HB1 := n2_; clear n_ n1_ n2_ ho hb hc hC)
    | ((with_reducible refine gate_dst (N := 5) rfl ?_); (try (refine gate_guard (by rfl) ?_; dsimp only)); refine Gen.ev_string' (⟨#[0]⟩ : ByteArray) rfl 23 9 5 (.tmp 4) rfl Try.underlying23 Try.underlying9 Try.underlying5 rfl HR3.out (by rw [List.nil_append, enc_0]; rfl) ?_)
    | ((with_reducible refine gate_dst (N := 9) rfl ?_); (try (refine gate_guard (by rfl) ?_; dsimp only)); refine Gen.ev_string' (⟨#[1]⟩ : ByteArray) rfl 23 9 5 (.tmp 8) rfl Try.underlying23 Try.underlying9 Try.underlying5 rfl HR3.out (by rw [List.nil_append, enc_m1]; rfl) ?_)
    | ((with_reducible refine gate_dst (N := 14) rfl ?_); (try (refine gate_guard (by rfl) ?_; dsimp only)); refine Gen.ev_string' (⟨#[128, 1]⟩ : ByteArray) rfl 23 9 5 (.tmp 13) rfl Try.underlying23 Try.underlying9 Try.underlying5 rfl HR3.out (by rw [List.nil_append, enc_64]; rfl) ?_)
    | (go_at_call 17; refine (num_calls' 64 _ _ g [128, 1] false HI.out (by unfold isBytes; decide) (by unfold numOf; rw [dec_64])).mono ?_; rintro e w4 ⟨rfl, hI, hb, hk⟩; have HI4 := Aside0.mk hI; have HB4 := Aside0.mk hb; clear hI hb hk)
    | (go_at_call 19; refine (bad_calls _ _ g _ _ HI4.out).mono ?_; rintro e w5 ⟨rfl, rfl⟩))
  go_ret
  refine ⟨?_, HB.out.trans (HB4.out.mono (Nat.le_trans HB0.out.size HG.out))⟩
  have e : badOf [128, 1] false = false := by unfold badOf; rw [dec_64]; rfl
  simp [e]

theorem short_calls (s : ByteArray) (w : World) (hs : s.size ≤ 9223372036854775807) : Calls Try.prog 23 #[.string s] w fun e w' => e = .returned (.string (s.extract 0 (min s.size 100))) ∧ w = w' := by
  by_cases h : 100 < s.size
  · have e : s.extract 0 (min s.size 100) = s.extract 0 100 := by rw [Nat.min_eq_right (by omega)]
    rw [e]
    go_enter Try.func23, Try.ntmps23
    go_wp2
    go_ret
    exact ⟨rfl, rfl⟩
  · have e : s.extract 0 (min s.size 100) = s := by rw [Nat.min_eq_left (by omega)]; simp
    rw [e]
    go_enter Try.func23, Try.ntmps23
    go_wp2
    go_ret
    exact ⟨rfl, rfl⟩

theorem wf_range {x : Int} (h : (Lit.int .i64 x).wf = true) : -9223372036854775808 ≤ x ∧ x ≤ 9223372036854775807 := by
  simp [Lit.wf, IntKind.min, IntKind.max, IntKind.bits, IntKind.signed] at h
  omega
/-- nil before: what is laid is the number alone. -/
theorem putNil_calls (l : List Int) (a1 : Int) (w : World) (h1 : -9223372036854775808 ≤ a1) (h2 : a1 ≤ 9223372036854775807) (hl : l = enc a1) :
    Calls Try.prog 12 #[.slice none 0 0, .int .i64 a1] w fun e w' => ∃ A c, e = .returned (.slice A l.length c) ∧ l.length ≤ c ∧ Kd.C (Kd.int .u8) w' A l.length l ∧ Below w.heap.size w w' := by
  refine (put_calls none 0 [] a1 w (Kd.C_nil _ _) (Nat.le_refl _) h1 h2 (by decide)).mono ?_
  rintro e w1 ⟨v, rfl, ho, hb⟩
  subst hl
  obtain ⟨A, c, rfl, hc, hC⟩ := Kd.R_reads ho
  exact ⟨A, c, rfl, hc, hC, hb⟩
theorem isBytes_wf {l : List Int} (h : ∀ n ∈ l, (Lit.int .u8 n).wf = true) : isBytes l := by
  intro c hc
  have h1 := h c hc
  simp [Lit.wf, IntKind.min, IntKind.max, IntKind.bits, IntKind.signed] at h1
  omega
theorem putC (lr : List Int) (A0 : Option Addr) (c0 : Nat) (l0 : List Int) (a1 : Int) (w : World) (hr0 : Kd.C (Kd.int .u8) w A0 l0.length l0) (hc0 : l0.length ≤ c0) (h1 : -9223372036854775808 ≤ a1) (h2 : a1 ≤ 9223372036854775807) (hl : l0.length ≤ 140737488350000) (hlr : lr = l0 ++ enc a1) :
    Calls Try.prog 12 #[.slice A0 l0.length c0, .int .i64 a1] w fun e w' => ∃ A c, e = .returned (.slice A lr.length c) ∧ lr.length ≤ c ∧ Kd.C (Kd.int .u8) w' A lr.length lr ∧ Below w.heap.size w w' := by
  subst hlr
  refine (put_calls A0 c0 l0 a1 w hr0 hc0 h1 h2 hl).mono ?_
  rintro e w1 ⟨v, rfl, ho, hb⟩
  obtain ⟨A, c, rfl, hc, hC⟩ := Kd.R_reads ho
  exact ⟨A, c, rfl, hc, hC, hb⟩
theorem refPutC (lr : List Int) (A0 : Option Addr) (c0 : Nat) (l0 : List Int) (a1 : Int) (w : World) (hr0 : Kd.C (Kd.int .u8) w A0 l0.length l0) (hc0 : l0.length ≤ c0) (h1 : -9223372036854775808 ≤ a1) (h2 : a1 ≤ 9223372036854775807) (hl : l0.length ≤ 140737488350000) (hlr : lr = l0 ++ enc a1) :
    Calls Try.prog 13 #[.slice A0 l0.length c0, .int .i64 a1] w fun e w' => ∃ A c, e = .returned (.slice A lr.length c) ∧ lr.length ≤ c ∧ Kd.C (Kd.int .u8) w' A lr.length lr ∧ Below w.heap.size w w' := by
  subst hlr
  refine (refPut_calls A0 c0 l0 a1 w hr0 hc0 h1 h2 hl).mono ?_
  rintro e w1 ⟨v, rfl, ho, hb⟩
  obtain ⟨A, c, rfl, hc, hC⟩ := Kd.R_reads ho
  exact ⟨A, c, rfl, hc, hC, hb⟩
theorem putTextC (lr : List Int) (A0 : Option Addr) (c0 : Nat) (l0 : List Int) (s : ByteArray) (w : World) (hr0 : Kd.C (Kd.int .u8) w A0 l0.length l0) (hc0 : l0.length ≤ c0) (hl : l0.length + s.size ≤ 140737488349000) (hlr : lr = l0 ++ encT (bytesOf s)) :
    Calls Try.prog 14 #[.slice A0 l0.length c0, .string s] w fun e w' => ∃ A c, e = .returned (.slice A lr.length c) ∧ lr.length ≤ c ∧ Kd.C (Kd.int .u8) w' A lr.length lr ∧ Below w.heap.size w w' := by
  subst hlr
  refine (putText_calls A0 c0 l0 s w hr0 hc0 hl).mono ?_
  rintro e w1 ⟨v, rfl, ho, hb⟩
  obtain ⟨A, c, rfl, hc, hC⟩ := Kd.R_reads ho
  exact ⟨A, c, rfl, hc, hC, hb⟩
theorem refPutTextC (lr : List Int) (A0 : Option Addr) (c0 : Nat) (l0 : List Int) (s : ByteArray) (w : World) (hr0 : Kd.C (Kd.int .u8) w A0 l0.length l0) (hc0 : l0.length ≤ c0) (hl : l0.length + s.size ≤ 140737488349000) (hlr : lr = l0 ++ encT (bytesOf s)) :
    Calls Try.prog 15 #[.slice A0 l0.length c0, .string s] w fun e w' => ∃ A c, e = .returned (.slice A lr.length c) ∧ lr.length ≤ c ∧ Kd.C (Kd.int .u8) w' A lr.length lr ∧ Below w.heap.size w w' := by
  subst hlr
  refine (refPutText_calls A0 c0 l0 s w hr0 hc0 hl).mono ?_
  rintro e w1 ⟨v, rfl, ho, hb⟩
  obtain ⟨A, c, rfl, hc, hC⟩ := Kd.R_reads ho
  exact ⟨A, c, rfl, hc, hC, hb⟩
end Go.Proofs.Ytnkaighdajickaa.Num

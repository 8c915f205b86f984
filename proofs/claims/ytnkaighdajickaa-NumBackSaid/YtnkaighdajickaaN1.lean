/- Walks of package num: the functions that lay numbers down. -/
import Derived.Test.YtnkaighdajickaaL1
import Derived.Test.YtnkaighdajickaaL2
namespace Go.Proofs.Ytnkaighdajickaa.Num
open Go.RowKit Go.Proofs.YtnkaighdajickaaW.PrintWords Go.Proofs.YtnkaighdajickaaW.PrintLast Go.Proofs.YtnkaighdajickaaW.PrintMore
set_option linter.unusedVariables false
set_option linter.unusedSimpArgs false

theorem info_u8 : (Try.prog.info? 5).map (fun i => (i.zero, i.size, i.bytes)) = some (some (.int .u8 0), 1, 1) := by kernel_rfl
theorem size_u8 : (Try.prog.info? 5).map (·.size) = some 1 := by kernel_rfl

theorem put_calls (A0 : Option Addr) (c0 : Nat) (l0 : List Int) (a1 : Int) (w : World) (hr0 : Kd.C (Kd.int .u8) w A0 l0.length l0) (hc0 : l0.length ≤ c0) (h1 : -9223372036854775808 ≤ a1) (h2 : a1 ≤ 9223372036854775807) (hl : l0.length ≤ 140737488350000) :
    Calls Try.prog 12 #[.slice A0 l0.length c0, .int .i64 a1] w fun e w' => ∃ v0_ : Value, e = .returned (v0_) ∧ Kd.R (Kd.int .u8) 5 w' w.heap.size (fun _ => True) v0_ (l0 ++ enc a1) ∧ Below w.heap.size w w' := by
  have HR0 := Aside0.mk hr0
  have HC0 := Aside0.mk hc0
  clear hr0 hc0
  have HB := Aside0.mk (Below.refl w.heap.size w)
  go_enter Try.func12, Try.ntmps12
  go_wp2_with (first
    | ((with_reducible refine gate_dst (N := 12) rfl ?_); refine Gen.R_makeCap (Kd.int .u8) (w0 := w) w.heap.size 5 rfl 23 (.tmp 8) (.tmp 11) rfl (l0.length : Int) ((l0.length : Int) + 10) rfl rfl Try.underlying23 (.int .u8 0) 1 info_u8 rfl (by decide) (by decide) 0 (fun _ _ _ => rfl) (by omega) (by omega) (by omega) (by repeat (first | (with_reducible first | exact HB.out | apply below_alloc | apply pw_below_drewN | apply below_drew1) | exact HB.out)) (below_size (by repeat (first | (with_reducible first | exact HB.out | apply below_alloc | apply pw_below_drewN | apply below_drew1) | exact HB.out))) ?_; intro v1 w1 ho hb hg hat; have n0_ := Aside0.mk hb; have n1_ := Aside0.mk ho; clear HB; have HB := n0_; have HO1 := n1_; clear n0_ n1_ ho hb hg hat)
    | ((with_reducible refine gate_builtin (b := .copy) (xs := #[.tmp 13, .tmp 14]) rfl ?_); refine Kd.R_copy (enc := Value.int .u8) (h1 := fun _ => rfl) (0 : Int) (w0 := w) w.heap.size rfl (.tmp 13) (.tmp 14) 23 23 5 rfl Try.underlying23 size_u8 v1 (List.replicate (l0.length : Int).toNat 0) l0 A0 l0.length c0 (fun _ => True) rfl rfl (by (with_reducible repeat (first | apply Kd.R_alloc | apply Kd.R_drewN | apply Kd.R_drew)); exact HO1.out) (by repeat (first | exact (Kd.C_below HR0.out HB.out) | (with_reducible refine Kd.C_alloc ?_ _) | (with_reducible refine Kd.C_drewN ?_ _) | (with_reducible refine Kd.C_drew ?_))) (by repeat (first | (with_reducible first | exact HB.out | apply below_alloc | apply pw_below_drewN | apply below_drew1) | exact HB.out)) (below_size (by repeat (first | (with_reducible first | exact HB.out | apply below_alloc | apply pw_below_drewN | apply below_drew1) | exact HB.out))) ?_; intro w2 ho hb hg; have n0_ := Aside0.mk hb; have n1_ := Aside0.mk ho; clear HB HO1; have HB := n0_; have HO2 := n1_; clear n0_ n1_ ho hb hg))
  have hz := zz_lt h1 h2
  have HL := Aside0.mk (enc_len ⟨h1, h2⟩)
  rw [zz_code ⟨h1, h2⟩]
  have HO2' : Aside0 (Kd.R (Kd.int .u8) 5 w2 w.heap.size (fun _ => True) v1 l0) := ⟨by
    have e := HO2.out
    simp only [Int.toNat_natCast, List.length_replicate, Nat.min_self, List.take_length, List.drop_replicate, Nat.sub_self, List.replicate_zero, List.append_nil] at e
    exact e⟩
  clear HO2
  go_loopg [5, 6] (zz a1) (fun u v5 v6 w' => ∃ x : List Int, v6 = .int .u64 (u : Int) ∧ Aside0 (x ++ encN u = l0 ++ enc a1) ∧ Aside0 (u < 18446744073709551616) ∧ Aside0 (Kd.R (Kd.int .u8) 5 w' w.heap.size (fun _ => True) v5 x) ∧ Aside0 (Below w.heap.size w w'))
  case atStart => exact ⟨l0, rfl, ⟨rfl⟩, ⟨hz⟩, HO2', HB⟩
  case round =>
    obtain ⟨x, rfl, HE, HU, HO, HB⟩ := hrel
    have hu := HU.out
    have HX : Aside0 (x.length ≤ 140737488350020) := ⟨by
      have e := congrArg List.length HE.out
      simp only [List.length_append] at e
      have := HL.out; omega⟩
    by_cases hc : 128 ≤ gk
    · have hd : decide ((128 : Int) ≤ (gk : Int)) = true := decide_eq_true (by omega)
      go_wp2_with (first | ((with_reducible refine gate_builtin (b := .append) (xs := #[.tmp 27, .tmp 31]) rfl ?_); at_builtin; refine Kd.R_append (Kd.int .u8) (w0 := w) w.heap.size rfl (.tmp 27) (.tmp 31) 23 5 (.int .u8 0) 1 rfl Try.underlying23 info_u8 rfl (by decide) (by omega) u5 x (bits BinOp.or IntKind.u8 ((gk : Int) % 256) 128) [(.int .u8 (bits BinOp.or IntKind.u8 ((gk : Int) % 256) 128))] (fun _ => True) (fun _ => False) rfl rfl ?aP (fun _ hk => hk.elim) ?aF ?aO ?aB ?aS ?aL ?_; (case aP => exact rfl); (case aB => exact (by repeat (first | (with_reducible first | exact HB.out | apply below_alloc | apply pw_below_drewN | apply below_drew1) | exact HB.out))); (case aF => exact (fun _ _ => trivial)); (case aO => exact (by (with_reducible repeat (first | apply Kd.R_alloc | apply Kd.R_drewN | apply Kd.R_drew)); exact HO.out)); (case aS => exact (below_size (by repeat (first | (with_reducible first | exact HB.out | apply below_alloc | apply pw_below_drewN | apply below_drew1) | exact HB.out)))); (case aL => have := HX.out; omega); intro v8 w8 ho hb hg hat; have n0_ := Aside0.mk (hb); have n1_ := Aside0.mk (ho); clear HB; clear HO; have HB := n0_; have HO8 := n1_; clear n0_ n1_; clear ho hb hg hat))
      go_roundg (gk / 128)
      case measure => omega
      case rel =>
        refine ⟨_, rfl, ⟨?_⟩, ⟨by omega⟩, ⟨(by (with_reducible repeat (first | apply Kd.R_alloc | apply Kd.R_drewN | apply Kd.R_drew)); exact HO8.out)⟩, ⟨(by repeat (first | (with_reducible first | exact HB.out | apply below_alloc | apply pw_below_drewN | apply below_drew1) | exact HB.out))⟩⟩
        rw [← HE.out, encN_ge hc, or_128, List.append_assoc]; rfl
    · have hd : decide ((128 : Int) ≤ (gk : Int)) = false := decide_eq_false (by omega)
      go_wp2_with (first | ((with_reducible refine gate_builtin (b := .append) (xs := #[.tmp 33, .tmp 36]) rfl ?_); at_builtin; refine Kd.R_append (Kd.int .u8) (w0 := w) w.heap.size rfl (.tmp 33) (.tmp 36) 23 5 (.int .u8 0) 1 rfl Try.underlying23 info_u8 rfl (by decide) (by omega) u5 x ((gk : Int)) [(.int .u8 ((gk : Int)))] (fun _ => True) (fun _ => False) rfl rfl ?aP (fun _ hk => hk.elim) ?aF ?aO ?aB ?aS ?aL ?_; (case aP => exact rfl); (case aB => exact (by repeat (first | (with_reducible first | exact HB.out | apply below_alloc | apply pw_below_drewN | apply below_drew1) | exact HB.out))); (case aF => exact (fun _ _ => trivial)); (case aO => exact (by (with_reducible repeat (first | apply Kd.R_alloc | apply Kd.R_drewN | apply Kd.R_drew)); exact HO.out)); (case aS => exact (below_size (by repeat (first | (with_reducible first | exact HB.out | apply below_alloc | apply pw_below_drewN | apply below_drew1) | exact HB.out)))); (case aL => have := HX.out; omega); intro v8 w8 ho hb hg hat; have n0_ := Aside0.mk (hb); have n1_ := Aside0.mk (ho); clear HB; clear HO; have HB := n0_; have HO8 := n1_; clear n0_ n1_; clear ho hb hg hat))
      go_ret
      refine ⟨_, rfl, ?_, (by repeat (first | (with_reducible first | exact HB.out | apply below_alloc | apply pw_below_drewN | apply below_drew1) | exact HB.out))⟩
      have e : x ++ [(gk : Int)] = l0 ++ enc a1 := by rw [← HE.out, encN_lt (by omega)]
      rw [← e]
      exact (by (with_reducible repeat (first | apply Kd.R_alloc | apply Kd.R_drewN | apply Kd.R_drew)); exact HO8.out)

theorem putText_calls (A0 : Option Addr) (c0 : Nat) (l0 : List Int) (s : ByteArray) (w : World) (hr0 : Kd.C (Kd.int .u8) w A0 l0.length l0) (hc0 : l0.length ≤ c0) (hl : l0.length + s.size ≤ 140737488349000) :
    Calls Try.prog 14 #[.slice A0 l0.length c0, .string s] w fun e w' => ∃ v0_ : Value, e = .returned (v0_) ∧ Kd.R (Kd.int .u8) 5 w' w.heap.size (fun _ => True) v0_ (l0 ++ encT (bytesOf s)) ∧ Below w.heap.size w w' := by
  have HL : Aside0 ((enc (s.size : Int)).length ≤ 10) := ⟨enc_len ⟨by omega, by omega⟩⟩
  go_enter Try.func14, Try.ntmps14
  go_wp2_with (first
    | (go_at_call 12; refine (put_calls A0 c0 l0 (s.size : Int) w hr0 hc0 (by omega) (by omega) (by omega)).mono ?_; rintro e w1 ⟨v1, rfl, ho, hb⟩; have HB := Aside0.mk hb; have HO1 := Aside0.mk ho; clear ho hb)
    | ((with_reducible refine gate_builtin (b := .append) (xs := #[.tmp 8, .tmp 9]) rfl ?_); at_builtin; refine Gen.R_append_str (w0 := w) w.heap.size rfl (.tmp 8) (.tmp 9) 23 9 5 rfl Try.underlying23 Try.underlying9 info_u8 v1 (l0 ++ enc (s.size : Int)) s rfl rfl ?aO ?aB ?aS ?aL ?_; (case aB => exact (by repeat (first | (with_reducible first | exact HB.out | apply below_alloc | apply pw_below_drewN | apply below_drew1) | exact HB.out))); (case aO => exact (by (with_reducible repeat (first | apply Kd.R_alloc | apply Kd.R_drewN | apply Kd.R_drew)); exact HO1.out)); (case aS => exact (below_size (by repeat (first | (with_reducible first | exact HB.out | apply below_alloc | apply pw_below_drewN | apply below_drew1) | exact HB.out)))); (case aL => have := HL.out; simp only [List.length_append]; omega); intro v2 w2 ho hb hg; have n0_ := Aside0.mk (hb); have n1_ := Aside0.mk (ho); clear HB; clear HO1; have HB := n0_; have HO2 := n1_; clear n0_ n1_; clear ho hb hg))
  go_ret
  refine ⟨_, rfl, ?_, (by repeat (first | (with_reducible first | exact HB.out | apply below_alloc | apply pw_below_drewN | apply below_drew1) | exact HB.out))⟩
  unfold encT
  rw [bytesOf_length, ← List.append_assoc]
  exact (by (with_reducible repeat (first | apply Kd.R_alloc | apply Kd.R_drewN | apply Kd.R_drew)); exact HO2.out)

theorem refPut_calls (A0 : Option Addr) (c0 : Nat) (l0 : List Int) (a1 : Int) (w : World) (hr0 : Kd.C (Kd.int .u8) w A0 l0.length l0) (hc0 : l0.length ≤ c0) (h1 : -9223372036854775808 ≤ a1) (h2 : a1 ≤ 9223372036854775807) (hl : l0.length ≤ 140737488350000) :
    Calls Try.prog 13 #[.slice A0 l0.length c0, .int .i64 a1] w fun e w' => ∃ v0_ : Value, e = .returned (v0_) ∧ Kd.R (Kd.int .u8) 5 w' w.heap.size (fun _ => True) v0_ (l0 ++ enc a1) ∧ Below w.heap.size w w' := by
  have HR0 := Aside0.mk hr0
  have HC0 := Aside0.mk hc0
  clear hr0 hc0
  have HB := Aside0.mk (Below.refl w.heap.size w)
  have hz := zz_lt h1 h2
  have HL := Aside0.mk (enc_len ⟨h1, h2⟩)
  go_enter Try.func13, Try.ntmps13
  go_upto_if 11 with (fail)
  go_cut [5] (fun v5 wc => v5 = .int .u64 (zz a1 : Int) ∧ Aside0 (Below w.heap.size w wc))
  case first =>
    have hz' : (zz a1 : Int) = if a1 < 0 then 2 * -(a1 + 1) + 1 else 2 * a1 := by unfold zz; split <;> omega
    by_cases hn : a1 < 0
    · rw [if_pos hn] at hz'
      have HZ := Aside0.mk hz'
      clear hz'
      have hd : decide (a1 < 0) = true := decide_eq_true hn
      go_wp2
      go_meet
      case rel => exact ⟨by rw [HZ.out], HB⟩
    · rw [if_neg hn] at hz'
      have HZ := Aside0.mk hz'
      clear hz'
      have hd : decide (a1 < 0) = false := decide_eq_false hn
      go_wp2
      go_meet
      case rel => exact ⟨by rw [HZ.out]; first | rfl | (congr 1; simp only [IntKind.wrap_u64]; omega), HB⟩
  case rest =>
    obtain ⟨rfl, HB⟩ := hcut
    go_wp2_with (first
      | ((with_reducible refine gate_dst (N := 18) rfl ?_); refine Kd.R_lit (Kd.int .u8) (w0 := w) w.heap.size 5 ?hg (N := 18) ?hd (xs := []) (inner := []) (ok := fun _ => True) (okp := fun _ => True) ?hr ?hp (fun _ hk => hk) trivial ?hB ?hS (by simp) ?_; (case hd => rfl); (case hg => rfl); (case hr => first | (go_simp; done) | (go_simp; rfl)); (case hp => exact (Reps.none _ _)); (case hB => exact (by repeat (first | (with_reducible first | exact HB.out | apply below_alloc | apply pw_below_drewN | apply below_drew1) | exact HB.out))); (case hS => exact (below_size (by repeat (first | (with_reducible first | exact HB.out | apply below_alloc | apply pw_below_drewN | apply below_drew1) | exact HB.out)))); intro v1 w1 ho hb hg hat; have n0_ := Aside0.mk (hb); have n1_ := Aside0.mk (ho); clear HB; have HB := n0_; have HO1 := n1_; clear n0_ n1_; clear ho hb hg hat)
      | ((with_reducible refine gate_builtin (b := .append) (xs := #[.tmp 18, .tmp 19]) rfl ?_); at_builtin; refine Kd.R_append_rows (Kd.int .u8) (w0 := w) w.heap.size rfl (.tmp 18) (.tmp 19) 23 5 (.int .u8 0) 1 rfl Try.underlying23 info_u8 rfl (by decide) (by omega) v1 [] l0 _ _ _ (fun _ => True) (fun _ => False) rfl rfl ?aO ?aR (fun _ _ h => h) (fun _ h => h.elim) ?aF ?aB ?aS ?aL ?_; (case aR => exact (by repeat (first | exact (Kd.C_below HR0.out HB.out) | (with_reducible refine Kd.C_alloc ?_ _) | (with_reducible refine Kd.C_drewN ?_ _) | (with_reducible refine Kd.C_drew ?_)))); (case aB => exact (by repeat (first | (with_reducible first | exact HB.out | apply below_alloc | apply pw_below_drewN | apply below_drew1) | exact HB.out))); (case aF => exact (fun _ _ => trivial)); (case aO => exact (by (with_reducible repeat (first | apply Kd.R_alloc | apply Kd.R_drewN | apply Kd.R_drew)); exact HO1.out)); (case aS => exact (below_size (by repeat (first | (with_reducible first | exact HB.out | apply below_alloc | apply pw_below_drewN | apply below_drew1) | exact HB.out)))); (case aL => simp only [List.length_nil]; omega); intro v2 w2 ho hb hg hat; have n0_ := Aside0.mk (hb); have n1_ := Aside0.mk (ho); clear HB; clear HO1; have HB := n0_; have HO2 := n1_; clear n0_ n1_; clear ho hb hg hat))
    go_loopg [5, 6] (zz a1) (fun u v5 v6 w' => ∃ x : List Int, v5 = .int .u64 (u : Int) ∧ Aside0 (x ++ encN u = l0 ++ enc a1) ∧ Aside0 (u < 18446744073709551616) ∧ Aside0 (Kd.R (Kd.int .u8) 5 w' w.heap.size (fun _ => True) v6 x) ∧ Aside0 (Below w.heap.size w w'))
    case atStart => exact ⟨l0, rfl, ⟨rfl⟩, ⟨hz⟩, ⟨by simpa using (by (with_reducible repeat (first | apply Kd.R_alloc | apply Kd.R_drewN | apply Kd.R_drew)); exact HO2.out)⟩, ⟨(by repeat (first | (with_reducible first | exact HB.out | apply below_alloc | apply pw_below_drewN | apply below_drew1) | exact HB.out))⟩⟩
    case round =>
      obtain ⟨x, rfl, HE, HU, HO, HB⟩ := hrel
      have hu := HU.out
      have HX : Aside0 (x.length ≤ 140737488350020) := ⟨by
        have e := congrArg List.length HE.out
        simp only [List.length_append] at e
        have := HL.out; omega⟩
      by_cases hc : 128 ≤ gk
      · have hd : decide ((128 : Int) ≤ (gk : Int)) = true := decide_eq_true (by omega)
        go_wp2_with (first | ((with_reducible refine gate_builtin (b := .append) (xs := #[.tmp 23, .tmp 28]) rfl ?_); at_builtin; refine Kd.R_append (Kd.int .u8) (w0 := w) w.heap.size rfl (.tmp 23) (.tmp 28) 23 5 (.int .u8 0) 1 rfl Try.underlying23 info_u8 rfl (by decide) (by omega) u6 x (((gk : Int) % 128) + 128) [(.int .u8 (((gk : Int) % 128) + 128))] (fun _ => True) (fun _ => False) rfl rfl ?aP (fun _ hk => hk.elim) ?aF ?aO ?aB ?aS ?aL ?_; (case aP => exact rfl); (case aB => exact (by repeat (first | (with_reducible first | exact HB.out | apply below_alloc | apply pw_below_drewN | apply below_drew1) | exact HB.out))); (case aF => exact (fun _ _ => trivial)); (case aO => exact (by (with_reducible repeat (first | apply Kd.R_alloc | apply Kd.R_drewN | apply Kd.R_drew)); exact HO.out)); (case aS => exact (below_size (by repeat (first | (with_reducible first | exact HB.out | apply below_alloc | apply pw_below_drewN | apply below_drew1) | exact HB.out)))); (case aL => have := HX.out; omega); intro v8 w8 ho hb hg hat; have n0_ := Aside0.mk (hb); have n1_ := Aside0.mk (ho); clear HB; clear HO; have HB := n0_; have HO8 := n1_; clear n0_ n1_; clear ho hb hg hat))
        go_roundg (gk / 128)
        case measure => omega
        case rel =>
          refine ⟨_, rfl, ⟨?_⟩, ⟨by omega⟩, ⟨(by (with_reducible repeat (first | apply Kd.R_alloc | apply Kd.R_drewN | apply Kd.R_drew)); exact HO8.out)⟩, ⟨(by repeat (first | (with_reducible first | exact HB.out | apply below_alloc | apply pw_below_drewN | apply below_drew1) | exact HB.out))⟩⟩
          rw [← HE.out, encN_ge hc, List.append_assoc]; rfl
      · have hd : decide ((128 : Int) ≤ (gk : Int)) = false := decide_eq_false (by omega)
        go_wp2_with (first | ((with_reducible refine gate_builtin (b := .append) (xs := #[.tmp 32, .tmp 35]) rfl ?_); at_builtin; refine Kd.R_append (Kd.int .u8) (w0 := w) w.heap.size rfl (.tmp 32) (.tmp 35) 23 5 (.int .u8 0) 1 rfl Try.underlying23 info_u8 rfl (by decide) (by omega) u6 x ((gk : Int)) [(.int .u8 ((gk : Int)))] (fun _ => True) (fun _ => False) rfl rfl ?aP (fun _ hk => hk.elim) ?aF ?aO ?aB ?aS ?aL ?_; (case aP => exact rfl); (case aB => exact (by repeat (first | (with_reducible first | exact HB.out | apply below_alloc | apply pw_below_drewN | apply below_drew1) | exact HB.out))); (case aF => exact (fun _ _ => trivial)); (case aO => exact (by (with_reducible repeat (first | apply Kd.R_alloc | apply Kd.R_drewN | apply Kd.R_drew)); exact HO.out)); (case aS => exact (below_size (by repeat (first | (with_reducible first | exact HB.out | apply below_alloc | apply pw_below_drewN | apply below_drew1) | exact HB.out)))); (case aL => have := HX.out; omega); intro v8 w8 ho hb hg hat; have n0_ := Aside0.mk (hb); have n1_ := Aside0.mk (ho); clear HB; clear HO; have HB := n0_; have HO8 := n1_; clear n0_ n1_; clear ho hb hg hat))
        go_ret
        refine ⟨_, rfl, ?_, (by repeat (first | (with_reducible first | exact HB.out | apply below_alloc | apply pw_below_drewN | apply below_drew1) | exact HB.out))⟩
        have e : x ++ [(gk : Int)] = l0 ++ enc a1 := by rw [← HE.out, encN_lt (by omega)]
        rw [← e]
        exact (by (with_reducible repeat (first | apply Kd.R_alloc | apply Kd.R_drewN | apply Kd.R_drew)); exact HO8.out)
end Go.Proofs.Ytnkaighdajickaa.Num

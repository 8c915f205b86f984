/- The statement NumShort: the walk of the law. -/
import Derived.Test.YtnkaighdajickaaN4
namespace Go.Proofs.Ytnkaighdajickaa.Num
open Go.RowKit Go.Proofs.YtnkaighdajickaaW.PrintWords Go.Proofs.YtnkaighdajickaaW.PrintLast Go.Proofs.YtnkaighdajickaaW.PrintMore
set_option linter.unusedVariables false
set_option linter.unusedSimpArgs false

theorem short_law (x y : Int) (w : World) (wx : (Lit.int .i64 x).wf = true) (wy : (Lit.int .i64 y).wf = true) :
    Calls Try.prog 3 #[.int .i64 x, .int .i64 y] w fun e w' => e = .returned (.bool true) ∧ Below w.heap.size w w' := by
  have hx := wf_range wx
  have hy := wf_range wy
  have lx := enc_len (x := x) ⟨hx.1, hx.2⟩
  have ly := enc_len (x := y) ⟨hy.1, hy.2⟩
  have px := enc_pos x
  have hm : 0 ≤ x → x ≤ y → (enc x).length ≤ (enc y).length := fun h1 h2 => enc_mono h1 h2
  obtain ⟨hx1, hx2⟩ := hx
  obtain ⟨hy1, hy2⟩ := hy
  obtain ⟨ex, hex⟩ : ∃ l, l = enc x := ⟨_, rfl⟩
  obtain ⟨ey, hey⟩ : ∃ l, l = enc y := ⟨_, rfl⟩
  rw [← hex] at lx px hm
  rw [← hey] at ly hm
  have HX := Aside0.mk hex
  have HY := Aside0.mk hey
  clear hex hey
  by_cases h0 : 0 ≤ x
  · by_cases hxy : x ≤ y
    · have hm' := hm h0 hxy
      clear hm
      go_enter Try.func3, Try.ntmps3
      go_wp2_with (go_at_call 11; refine (shown_calls _).mono ?_; rintro e w1 ⟨rfl, hb⟩; have HB := Aside0.mk hb; clear hb)
      refine (putNil_calls ex x _ (by omega) (by omega) HX.out).mono ?_
      rintro e w2 ⟨A2, c2, rfl, hc, hC, hb⟩
      have HX2 := Aside0.mk hC; have n_ := Aside0.mk (below_step HB.out hb); clear HB hb hc hC; have HB := n_; clear n_
      go_wp2_with fail
      refine (putNil_calls ey y _ (by omega) (by omega) HY.out).mono ?_
      rintro e w3 ⟨A3, c3, rfl, hc, hC, hb⟩
      have HY3 := Aside0.mk hC; have n_ := Aside0.mk (below_step HB.out hb); have n1_ := Aside0.mk (Kd.C_below HX2.out hb); clear HB HX2 hb hc hC; have HB := n_; have HX3 := n1_; clear n_ n1_
      have hv1 := Kd.C_string (P := Try.prog) (c := c2) Try.underlying23 Try.underlying5 Try.underlying9 HX3.out
      have hv2 := Kd.C_string (P := Try.prog) (c := c3) Try.underlying23 Try.underlying5 Try.underlying9 HY3.out
      go_wp2_with fail
      go_ret
      exact ⟨ret_bool (by rw [HX.out, HY.out, enc_beq ⟨hx1, hx2⟩ ⟨hy1, hy2⟩]; simp), HB.out⟩
    · clear hm
      go_enter Try.func3, Try.ntmps3
      go_wp2_with (go_at_call 11; refine (shown_calls _).mono ?_; rintro e w1 ⟨rfl, hb⟩; have HB := Aside0.mk hb; clear hb)
      refine (putNil_calls ex x _ (by omega) (by omega) HX.out).mono ?_
      rintro e w2 ⟨A2, c2, rfl, hc, hC, hb⟩
      have HX2 := Aside0.mk hC; have n_ := Aside0.mk (below_step HB.out hb); clear HB hb hc hC; have HB := n_; clear n_
      go_wp2_with fail
      refine (putNil_calls ey y _ (by omega) (by omega) HY.out).mono ?_
      rintro e w3 ⟨A3, c3, rfl, hc, hC, hb⟩
      have HY3 := Aside0.mk hC; have n_ := Aside0.mk (below_step HB.out hb); have n1_ := Aside0.mk (Kd.C_below HX2.out hb); clear HB HX2 hb hc hC; have HB := n_; have HX3 := n1_; clear n_ n1_
      have hv1 := Kd.C_string (P := Try.prog) (c := c2) Try.underlying23 Try.underlying5 Try.underlying9 HX3.out
      have hv2 := Kd.C_string (P := Try.prog) (c := c3) Try.underlying23 Try.underlying5 Try.underlying9 HY3.out
      go_wp2_with fail
      go_ret
      exact ⟨ret_bool (by rw [HX.out, HY.out, enc_beq ⟨hx1, hx2⟩ ⟨hy1, hy2⟩]; simp), HB.out⟩
  · clear hm
    go_enter Try.func3, Try.ntmps3
    go_wp2_with (go_at_call 11; refine (shown_calls _).mono ?_; rintro e w1 ⟨rfl, hb⟩; have HB := Aside0.mk hb; clear hb)
    refine (putNil_calls ex x _ (by omega) (by omega) HX.out).mono ?_
    rintro e w2 ⟨A2, c2, rfl, hc, hC, hb⟩
    have HX2 := Aside0.mk hC; have n_ := Aside0.mk (below_step HB.out hb); clear HB hb hc hC; have HB := n_; clear n_
    go_wp2_with fail
    refine (putNil_calls ey y _ (by omega) (by omega) HY.out).mono ?_
    rintro e w3 ⟨A3, c3, rfl, hc, hC, hb⟩
    have HY3 := Aside0.mk hC; have n_ := Aside0.mk (below_step HB.out hb); have n1_ := Aside0.mk (Kd.C_below HX2.out hb); clear HB HX2 hb hc hC; have HB := n_; have HX3 := n1_; clear n_ n1_
    have hv1 := Kd.C_string (P := Try.prog) (c := c2) Try.underlying23 Try.underlying5 Try.underlying9 HX3.out
    have hv2 := Kd.C_string (P := Try.prog) (c := c3) Try.underlying23 Try.underlying5 Try.underlying9 HY3.out
    go_wp2_with fail
    go_ret
    exact ⟨ret_bool (by rw [HX.out, HY.out, enc_beq ⟨hx1, hx2⟩ ⟨hy1, hy2⟩]; simp), HB.out⟩
end Go.Proofs.Ytnkaighdajickaa.Num

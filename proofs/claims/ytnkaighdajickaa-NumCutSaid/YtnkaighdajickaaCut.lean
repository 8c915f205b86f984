/- The statement NumCut: the walk of the law. -/
import Derived.Test.YtnkaighdajickaaN5
namespace Go.Proofs.Ytnkaighdajickaa.Num
open Go.RowKit Go.Proofs.YtnkaighdajickaaW.PrintWords Go.Proofs.YtnkaighdajickaaW.PrintLast Go.Proofs.YtnkaighdajickaaW.PrintMore
set_option linter.unusedVariables false
set_option linter.unusedSimpArgs false

theorem numOf_none {l : List Int} (h : dec l = none) : numOf l = 0 ∧ aft l = [] ∧ ∀ b, badOf l b = true := by
  unfold numOf aft badOf
  rw [h]
  exact ⟨rfl, rfl, fun b => by simp⟩
theorem cut_law (x many : Int) (w : World) (wx : (Lit.int .i64 x).wf = true) (wm : (Lit.int .i64 many).wf = true) :
    Calls Try.prog 8 #[.int .i64 x, .int .i64 many] w fun e w' => e = .returned (.bool true) ∧ Below w.heap.size w w' := by
  obtain ⟨hx1, hx2⟩ := wf_range wx
  obtain ⟨hm1, hm2⟩ := wf_range wm
  have lx := enc_len (x := x) ⟨hx1, hx2⟩
  obtain ⟨ex, hex⟩ : ∃ l, l = enc x := ⟨_, rfl⟩
  rw [← hex] at lx
  have HX := Aside0.mk hex
  clear hex
  go_enter Try.func8, Try.ntmps8
  go_wp2_with (go_at_call 11; refine (shown_calls _).mono ?_; rintro e w1 ⟨rfl, hb⟩; have HB := Aside0.mk hb; clear hb)
  refine (putNil_calls ex x _ (by omega) (by omega) HX.out).mono ?_
  rintro e w2 ⟨A2, c2, rfl, hc, hC, hb⟩
  have HX2 := Aside0.mk hC; have n_ := Aside0.mk (below_step HB.out hb); clear HB hb hC; have HB := n_; clear n_
  by_cases h0 : many < 0
  · have e0 : decide (many < 0) = true := decide_eq_true h0
    go_wp2
    go_ret
    exact ⟨rfl, HB.out⟩
  · have e0 : decide (many < 0) = false := decide_eq_false h0
    by_cases hge : (ex.length : Int) ≤ many
    · have e1 : decide ((ex.length : Int) ≤ many) = true := decide_eq_true hge
      go_wp2
      go_ret
      exact ⟨rfl, HB.out⟩
    · obtain ⟨m, rfl⟩ := Int.eq_ofNat_of_zero_le (show 0 ≤ many by omega)
      have hml : m < ex.length := by omega
      have e1 : decide ((ex.length : Int) ≤ (m : Int)) = false := decide_eq_false hge
      have hd : dec (ex.take m) = none := by rw [HX.out]; exact dec_cut ⟨hx1, hx2⟩ (by rw [← HX.out]; exact hml)
      have HD := Aside0.mk hd
      have HBY := Aside0.mk (show isBytes (ex.take m) by rw [HX.out]; exact isBytes_take (enc_bytes x) m)
      clear hd
      obtain ⟨lt, hlt⟩ : ∃ lt, lt = ex.take m := ⟨_, rfl⟩
      have HL := Aside0.mk (show Lst U8 w2 (.slice A2 m c2) lt by rw [hlt]; exact (Lst.mk hc HX2.out).take (by omega))
      rw [← hlt] at HD HBY
      clear hlt HX2
      have hmc : m ≤ c2 := by omega
      have HBw := HB
      go_wp2_with fail
      refine (newReaderL _ lt _ HL.out).mono ?_
      rintro e w3 ⟨g, rfl, hI, hb, hg⟩
      have HI := Aside0.mk hI; have HB2 := Aside0.mk hb; have n_ := Aside0.mk (below_step HB.out hb); clear HB hI hb; have HB := n_; clear n_
      obtain ⟨a1, a2, a3⟩ := numOf_none HD.out
      obtain ⟨b1, b2, b3⟩ := numOf_none dec_none_nil
      have A3 := Aside0.mk a3
      have B3 := Aside0.mk b3
      have b4 : textOf [] = ByteArray.empty := rfl
      have hbn : isBytes [] := fun c hc => by simp at hc
      clear a3 b3
      go_wp2_with fail
      refine (num_calls' 0 w2 _ g lt false HI.out HB2.out HBY.out a1).mono ?_
      rw [a2, A3.out]
      rintro e w4 ⟨rfl, hI, hb, hk⟩
      have HI4 := Aside0.mk hI; have HB4 := Aside0.mk hb; clear hI hb hk HI HB2
      go_wp2_with fail
      refine (bad_calls w2 _ g [] true HI4.out).mono ?_
      rintro e w5 ⟨rfl, rfl⟩
      go_wp2_with fail
      refine (left_calls w2 _ g [] true HI4.out).mono ?_
      rintro e w5 ⟨rfl, rfl⟩
      go_wp2_with fail
      refine (num_calls' 0 w2 _ g [] true HI4.out HB4.out hbn b1).mono ?_
      rw [b2, B3.out]
      rintro e w5 ⟨rfl, hI, hb, hk⟩
      have HI5 := Aside0.mk hI; have HB5 := Aside0.mk hb; clear hI hb hk HI4 HB4
      go_wp2_with fail
      refine (text_calls w2 _ g [] true HI5.out HB5.out hbn).mono ?_
      rw [b4]
      rintro e w6 ⟨rfl, hI, hb, hk⟩
      have HB6 := Aside0.mk hb; clear hI hb hk HI5 HB5
      go_wp2
      go_ret
      exact ⟨rfl, below_step HBw.out HB6.out⟩
end Go.Proofs.Ytnkaighdajickaa.Num

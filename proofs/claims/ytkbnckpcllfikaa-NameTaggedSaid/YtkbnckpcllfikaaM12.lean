/- Tags: the reference's Tag and Parts. -/
import Derived.Test.YtkbnckpcllfikaaM11
namespace Go.Proofs.Ytkbnckpcllfikaa.Nam
open Go.RowKit Go.Proofs.YtkbnckpcllfikaaW.PrintWords Go.Proofs.YtkbnckpcllfikaaW.PrintLast Go.Proofs.YtkbnckpcllfikaaW.PrintMore Go.Proofs.Ytkbnckpcllfikaa.Num Go.Proofs.Ytkbnckpcllfikaa.Prt
set_option linter.unusedVariables false
set_option linter.unusedSimpArgs false
theorem refTagYes (k v : ByteArray) (w : World) (hk : k.size ≤ 100000) (hv : v.size ≤ 100000) (h1 : mayL (bytesOf k) = true) (h2 : mayL (bytesOf v) = true) :
    Calls Try.prog 20 #[.string k, .string v] w fun e w' => e = .returned (.string (k ++ ⟨#[58]⟩ ++ v)) ∧ Below w.heap.size w w' := by
  have HB := Aside0.mk (Below.refl w.heap.size w)
  have H1 := Aside0.mk h1
  have H2 := Aside0.mk h2
  have hsz : (k ++ ⟨#[58]⟩ : ByteArray).size = k.size + 1 := by rw [ByteArray.size_append]; rfl
  clear h1 h2
  have hs1 : (k ++ ⟨#[58]⟩ : ByteArray).size + v.size ≤ 9223372036854775807 := by omega
  have hs2 : k.size + 1 ≤ 9223372036854775807 := by omega
  clear hsz
  go_enter Try.func20, Try.ntmps20
  go_wp2_with fail
  refine (refMayC true k _ (by omega) H1.out).mono ?_

  rintro e w_ ⟨rfl, hb⟩
  have n_ := Aside0.mk (below_step (by repeat (first | (with_reducible first | exact HB.out | apply below_alloc | apply pw_below_drewN | apply below_drew1) | exact HB.out)) hb); clear HB hb; have HB := n_; clear n_
  go_wp2_with fail
  refine (refMayC true v _ (by omega) H2.out).mono ?_

  rintro e w_ ⟨rfl, hb⟩
  have n_ := Aside0.mk (below_step (by repeat (first | (with_reducible first | exact HB.out | apply below_alloc | apply pw_below_drewN | apply below_drew1) | exact HB.out)) hb); clear HB hb; have HB := n_; clear n_
  go_wp2
  go_ret
  exact ⟨rfl, (by repeat (first | (with_reducible first | exact HB.out | apply below_alloc | apply pw_below_drewN | apply below_drew1) | exact HB.out))⟩
theorem refTagNo1 (bv : Bool) (k v : ByteArray) (w : World) (hk : k.size ≤ 100000) (hv : v.size ≤ 100000) (h1 : mayL (bytesOf k) = false) (h2 : mayL (bytesOf v) = bv) :
    Calls Try.prog 20 #[.string k, .string v] w fun e w' => e = .returned (.string (⟨#[]⟩)) ∧ Below w.heap.size w w' := by
  have HB := Aside0.mk (Below.refl w.heap.size w)
  have H1 := Aside0.mk h1
  have H2 := Aside0.mk h2
  have hsz : (k ++ ⟨#[58]⟩ : ByteArray).size = k.size + 1 := by rw [ByteArray.size_append]; rfl
  clear h1 h2
  have hs1 : (k ++ ⟨#[58]⟩ : ByteArray).size + v.size ≤ 9223372036854775807 := by omega
  have hs2 : k.size + 1 ≤ 9223372036854775807 := by omega
  clear hsz
  go_enter Try.func20, Try.ntmps20
  go_wp2_with fail
  refine (refMayC false k _ (by omega) H1.out).mono ?_

  rintro e w_ ⟨rfl, hb⟩
  have n_ := Aside0.mk (below_step (by repeat (first | (with_reducible first | exact HB.out | apply below_alloc | apply pw_below_drewN | apply below_drew1) | exact HB.out)) hb); clear HB hb; have HB := n_; clear n_
  go_wp2_with fail
  refine (refMayC bv v _ (by omega) H2.out).mono ?_

  rintro e w_ ⟨rfl, hb⟩
  have n_ := Aside0.mk (below_step (by repeat (first | (with_reducible first | exact HB.out | apply below_alloc | apply pw_below_drewN | apply below_drew1) | exact HB.out)) hb); clear HB hb; have HB := n_; clear n_
  go_wp2
  go_ret
  exact ⟨rfl, (by repeat (first | (with_reducible first | exact HB.out | apply below_alloc | apply pw_below_drewN | apply below_drew1) | exact HB.out))⟩
theorem refTagNo2 (k v : ByteArray) (w : World) (hk : k.size ≤ 100000) (hv : v.size ≤ 100000) (h1 : mayL (bytesOf k) = true) (h2 : mayL (bytesOf v) = false) :
    Calls Try.prog 20 #[.string k, .string v] w fun e w' => e = .returned (.string (⟨#[]⟩)) ∧ Below w.heap.size w w' := by
  have HB := Aside0.mk (Below.refl w.heap.size w)
  have H1 := Aside0.mk h1
  have H2 := Aside0.mk h2
  have hsz : (k ++ ⟨#[58]⟩ : ByteArray).size = k.size + 1 := by rw [ByteArray.size_append]; rfl
  clear h1 h2
  have hs1 : (k ++ ⟨#[58]⟩ : ByteArray).size + v.size ≤ 9223372036854775807 := by omega
  have hs2 : k.size + 1 ≤ 9223372036854775807 := by omega
  clear hsz
  go_enter Try.func20, Try.ntmps20
  go_wp2_with fail
  refine (refMayC true k _ (by omega) H1.out).mono ?_

  rintro e w_ ⟨rfl, hb⟩
  have n_ := Aside0.mk (below_step (by repeat (first | (with_reducible first | exact HB.out | apply below_alloc | apply pw_below_drewN | apply below_drew1) | exact HB.out)) hb); clear HB hb; have HB := n_; clear n_
  go_wp2_with fail
  refine (refMayC false v _ (by omega) H2.out).mono ?_

  rintro e w_ ⟨rfl, hb⟩
  have n_ := Aside0.mk (below_step (by repeat (first | (with_reducible first | exact HB.out | apply below_alloc | apply pw_below_drewN | apply below_drew1) | exact HB.out)) hb); clear HB hb; have HB := n_; clear n_
  go_wp2
  go_ret
  exact ⟨rfl, (by repeat (first | (with_reducible first | exact HB.out | apply below_alloc | apply pw_below_drewN | apply below_drew1) | exact HB.out))⟩
theorem refTagNo (k v : ByteArray) (w : World) (hk : k.size ≤ 100000) (hv : v.size ≤ 100000) (h : mayL (bytesOf k) = false ∨ mayL (bytesOf v) = false) :
    Calls Try.prog 20 #[.string k, .string v] w fun e w' => e = .returned (.string ⟨#[]⟩) ∧ Below w.heap.size w w' := by
  cases h1 : mayL (bytesOf k) with
  | false => exact refTagNo1 _ k v w hk hv h1 rfl
  | true =>
    rcases h with h | h
    · rw [h] at h1; cases h1
    · exact refTagNo2 k v w hk hv h1 h
theorem byte_at (s : ByteArray) (i : Nat) (c : Int) (hi : i < s.size) (hc : (bytesOf s).getD i 0 = c) : ∀ h : i < s.size, ((s[i]'h).toNat : Int) = c := fun h => (bt_at s (i : Int) h).trans ((bt_getD s i hi).trans hc)
theorem refPartsN (s : ByteArray) (w : World) (hk : (58 : Int) ∉ bytesOf s) (hz : s.size ≤ 1000000) :
    Calls Try.prog 19 #[.string s] w fun e w' => e = .returned (.tuple #[.string ⟨#[]⟩, .string ⟨#[]⟩, .bool false]) ∧ Below w.heap.size w w' := by
  have HK := Aside0.mk hk
  clear hk
  go_enter Try.func19, Try.ntmps19
  go_wp2_with fail
  go_loopg [5] (s.size) (fun n v5 w' => ∃ i : Nat, v5 = .int .i64 (i : Int) ∧ Aside0 (i + n = s.size) ∧ Aside0 (Below w.heap.size w w'))
  case atStart => exact ⟨0, rfl, ⟨by omega⟩, ⟨Below.refl _ _⟩⟩
  case round =>
    obtain ⟨i, rfl, HE, HB⟩ := hrel
    by_cases hi : i < s.size
    · obtain ⟨c, hc⟩ : ∃ c, (bytesOf s).getD i 0 = c := ⟨_, rfl⟩
      have hx := byte_at s i c hi hc
      have hne : (c == 58) = false := beq_eq_false_iff_ne.mpr (fun e => HK.out (by
        have hl : i < (bytesOf s).length := by rw [bytes_length]; exact hi
        rw [← e, ← hc, List.getD_eq_getElem?_getD, List.getElem?_eq_getElem hl]; exact List.getElem_mem hl))
      clear hc
      have hb1 : decide ((i : Int) < (s.size : Int)) = true := decide_eq_true (by omega)
      go_wp2_with fail
      go_roundg (s.size - (i + 1))
      case measure => have := HE.out; omega
      case rel => exact ⟨i + 1, by go_num, ⟨by omega⟩, ⟨(by repeat (first | (with_reducible first | exact HB.out | apply below_alloc | apply pw_below_drewN | apply below_drew1) | exact HB.out))⟩⟩
    · have hb1 : decide ((i : Int) < (s.size : Int)) = false := decide_eq_false (by omega)
      go_wp2
      go_ret3
      exact ⟨rfl, (by repeat (first | (with_reducible first | exact HB.out | apply below_alloc | apply pw_below_drewN | apply below_drew1) | exact HB.out))⟩
open Go.Proofs.YtkbnckpcllfikaaW.PrintLast
def D19.T8 : Bool × List (List Nat × List Nat) := (true, [([], []), ([], []), ([0, 1], [0, 1]), ([], []), ([], []), ([4], [4]), ([3, 5], [3, 5]), ([2, 0, 1, 2], [2]), ([6, 7, 0, 1, 2, 3, 4, 5, 6, 7], [6]), ([8, 0, 1, 2, 3, 4, 5, 6, 7, 8], [])])
def D19.B8 : List Nat := [0, 0, 3, 0, 0, 16, 56, 7, 255, 511]
theorem D19.tab8 : rtab .any (opsOf Try.f19 8) = D19.T8 := by kernel_rfl
theorem D19.bits8 : waitsOk D19.T8.2 D19.B8 = true := by kernel_rfl
theorem refPartsC (bk bv : Bool) (k v s : ByteArray) (w : World) (hs : s = k ++ (⟨#[58]⟩ : ByteArray) ++ v) (hk : (58 : Int) ∉ bytesOf k) (h1 : mayL (bytesOf k) = bk) (h2 : mayL (bytesOf v) = bv) (hz : s.size ≤ 1000000) :
    Calls Try.prog 19 #[.string s] w fun e w' => e = .returned (if (bk && bv) = true then .tuple #[.string k, .string v, .bool true] else .tuple #[.string ⟨#[]⟩, .string ⟨#[]⟩, .bool false]) ∧ Below w.heap.size w w' := by
  have hsz : s.size = k.size + 1 + v.size := by rw [hs, ByteArray.size_append, ByteArray.size_append]; rfl
  have HE := Aside0.mk (show s.extract 0 k.size = k by rw [hs]; exact ext_head k v)
  have HT := Aside0.mk (show s.extract (k.size + 1) s.size = v by have := ext_tail k v s.size (by rw [hs]); rwa [← hs] at this)
  have HL := Aside0.mk (show bytesOf s = bytesOf k ++ 58 :: bytesOf v by rw [hs]; exact bytes_cat k v)
  have HK := Aside0.mk hk
  have H1 := Aside0.mk h1
  have H2 := Aside0.mk h2
  clear hs hk h1 h2
  have HSZ := Aside0.mk hsz
  have hks : k.size + 1 ≤ s.size := by omega
  have hvs : v.size ≤ 1000000 := by omega
  clear hsz
  go_enter Try.func19, Try.ntmps19
  go_wp2_with fail
  go_loopg [5] (k.size) (fun n v5 w' => ∃ i : Nat, v5 = .int .i64 (i : Int) ∧ Aside0 (i + n = k.size) ∧ Aside0 (Below w.heap.size w w'))
  case atStart => exact ⟨0, rfl, ⟨by omega⟩, ⟨Below.refl _ _⟩⟩
  case round =>
    obtain ⟨i, rfl, HE2, HB⟩ := hrel
    have hik : i ≤ k.size := by have := HE2.out; omega
    have hi : i < s.size := by omega
    have hb1 : decide ((i : Int) < (s.size : Int)) = true := decide_eq_true (by omega)
    by_cases hlt : i < k.size
    · obtain ⟨c, hc⟩ : ∃ c, (bytesOf s).getD i 0 = c := ⟨_, rfl⟩
      have hx := byte_at s i c hi hc
      have hne : (c == 58) = false := beq_eq_false_iff_ne.mpr (fun e => HK.out (by
        have hl : i < (bytesOf k).length := by rw [bytes_length]; exact hlt
        rw [HL.out, List.getD_eq_getElem?_getD, List.getElem?_append_left hl, List.getElem?_eq_getElem hl] at hc
        rw [← e, ← hc]; exact List.getElem_mem hl))
      clear hc
      go_wp2_with fail
      go_roundg (k.size - (i + 1))
      case measure => have := HE2.out; omega
      case rel => exact ⟨i + 1, by go_num, ⟨by omega⟩, ⟨(by repeat (first | (with_reducible first | exact HB.out | apply below_alloc | apply pw_below_drewN | apply below_drew1) | exact HB.out))⟩⟩
    · obtain rfl : i = k.size := by omega
      have hc : (bytesOf s).getD k.size 0 = 58 := by
        rw [HL.out, List.getD_eq_getElem?_getD, List.getElem?_append_right (by rw [bytes_length]; exact Nat.le_refl _), bytes_length, Nat.sub_self]; rfl
      have hx := byte_at s k.size 58 hi hc
      clear hc
      have hl1 : ¬ s.size < k.size := by omega
      have hl2 : (0 : Int) ≤ (k.size : Int) + 1 := by omega
      have hl3 : ¬ (s.size : Int) < (k.size : Int) + 1 := by omega
      have HL4 := Aside0.mk (wrap_small (n := (k.size : Int) + 1) (by omega) (by omega))
      go_wp2_with fail
      rw [HE.out]
      refine (refMayC bk k _ (by omega) H1.out).mono ?_

      rintro e w_ ⟨rfl, hb⟩
      have n_ := Aside0.mk (below_step (by repeat (first | (with_reducible first | exact HB.out | apply below_alloc | apply pw_below_drewN | apply below_drew1) | exact HB.out)) hb); clear HB hb; have HB := n_; clear n_
      go_wp2_with fail
      rw [HT.out]
      refine (refMayC bv v _ hvs H2.out).mono ?_

      rintro e w_ ⟨rfl, hb⟩
      have n_ := Aside0.mk (below_step (by repeat (first | (with_reducible first | exact HB.out | apply below_alloc | apply pw_below_drewN | apply below_drew1) | exact HB.out)) hb); clear HB hb; have HB := n_; clear n_
      cases bk with
      | false =>
        go_wp2
        go_ret3
        exact ⟨rfl, (by repeat (first | (with_reducible first | exact HB.out | apply below_alloc | apply pw_below_drewN | apply below_drew1) | exact HB.out))⟩
      | true =>
        cases bv with
        | false =>
          go_wp2
          go_ret3
          exact ⟨rfl, (by repeat (first | (with_reducible first | exact HB.out | apply below_alloc | apply pw_below_drewN | apply below_drew1) | exact HB.out))⟩
        | true =>
          have HBB := HB
          go_wp2_with fail
          refine start_ (n := 10) (S := fun w' => True) (ds := []) #[false, false, false, false, false, false, false, false, false, false] (by kernel_rfl) rfl rfl trivial (fun hHeld => ?_); refine with_tabW D19.tab8 D19.bits8 (fun HT_ HW_ => ?_)
          refine inv_at [0, 1, 2, 3, 4, 5, 6, 7, 8, 9] (fun a0_ b a w' => a = putSel a0_ b [(0, 31, .string s), (1, 32, .int .i64 (k.size : Int)), (2, 33, .string (s.extract 0 k.size)), (3, 34, .string s), (4, 35, .int .i64 (k.size : Int)), (5, 36, .int .i64 ((k.size : Int) + 1)), (6, 37, .string (s.extract (k.size + 1) s.size)), (7, 2, .string (s.extract 0 k.size)), (8, 3, .string (s.extract (k.size + 1) s.size)), (9, 4, (Value.bool true))] ∧ (Below w.heap.size w w')) HT_.out HW_.out (by kernel_rfl) (by kernel_rfl) ?_ ?_ ?_
          · exact ⟨by simp only [putSel, Bool.false_eq_true, if_false], (by repeat (first | (with_reducible first | exact HBB.out | apply below_alloc | apply pw_below_drewN | apply below_drew1) | exact HBB.out))⟩
          · clear HT_ HW_ hHeld
            clear HBB
            refine steps_cons ?_ ?_
            · intro b a w' hI_ hb_ hon hoff
              refine ⟨_, rfl, fun K hK => ?_⟩
              obtain ⟨ha, Q_HBB⟩ := hI_
              have e0 : a.tmps[0]? = some (.string s) := by rw [ha]; exact (putSel_off rfl).trans rfl
              replace ha := Aside0.mk ha
              have HBB := Aside0.mk Q_HBB
              refine value_ (w1 := w') (v := .string s) (by rfl) rfl ?_ ?_
              · go_simp
                (try simp only [i64_w])
                try (first | rfl | assumption)
              refine hK.out _ _ ⟨(by rw [ha.out]; exact putSel_upk 0 hb_ rfl rfl rfl), Q_HBB⟩
            refine steps_cons ?_ ?_
            · intro b a w' hI_ hb_ hon hoff
              refine ⟨_, rfl, fun K hK => ?_⟩
              obtain ⟨ha, Q_HBB⟩ := hI_
              have e5 : a.tmps[5]? = some (.int .i64 (k.size : Int)) := by rw [ha]; exact (putSel_off rfl).trans rfl
              replace ha := Aside0.mk ha
              have HBB := Aside0.mk Q_HBB
              refine value_ (w1 := w') (v := .int .i64 (k.size : Int)) (by rfl) rfl ?_ ?_
              · go_simp
                (try simp only [i64_w])
                try (first | rfl | assumption)
              refine hK.out _ _ ⟨(by rw [ha.out]; exact putSel_upk 1 hb_ rfl rfl rfl), Q_HBB⟩
            refine steps_cons ?_ ?_
            · intro b a w' hI_ hb_ hon hoff
              refine ⟨_, rfl, fun K hK => ?_⟩
              obtain ⟨ha, Q_HBB⟩ := hI_
              have e31 : a.tmps[31]? = some (.string s) := by rw [ha]; exact putSel_on (e := (0, 31, .string s)) 0 rfl rfl (hon 0 (by kernel_rfl)) rfl
              have e32 : a.tmps[32]? = some (.int .i64 (k.size : Int)) := by rw [ha]; exact putSel_on (e := (1, 32, .int .i64 (k.size : Int))) 1 rfl rfl (hon 1 (by kernel_rfl)) rfl
              replace ha := Aside0.mk ha
              have HBB := Aside0.mk Q_HBB
              refine value_ (w1 := w') (v := .string (s.extract 0 k.size)) (by rfl) rfl ?_ ?_
              · go_simp
                (try simp only [i64_w])
                try (first | rfl | assumption)
              refine hK.out _ _ ⟨(by rw [ha.out]; exact putSel_upk 2 hb_ rfl rfl rfl), Q_HBB⟩
            refine steps_cons ?_ ?_
            · intro b a w' hI_ hb_ hon hoff
              refine ⟨_, rfl, fun K hK => ?_⟩
              obtain ⟨ha, Q_HBB⟩ := hI_
              have e0 : a.tmps[0]? = some (.string s) := by rw [ha]; exact (putSel_off rfl).trans rfl
              replace ha := Aside0.mk ha
              have HBB := Aside0.mk Q_HBB
              refine value_ (w1 := w') (v := .string s) (by rfl) rfl ?_ ?_
              · go_simp
                (try simp only [i64_w])
                try (first | rfl | assumption)
              refine hK.out _ _ ⟨(by rw [ha.out]; exact putSel_upk 3 hb_ rfl rfl rfl), Q_HBB⟩
            refine steps_cons ?_ ?_
            · intro b a w' hI_ hb_ hon hoff
              refine ⟨_, rfl, fun K hK => ?_⟩
              obtain ⟨ha, Q_HBB⟩ := hI_
              have e5 : a.tmps[5]? = some (.int .i64 (k.size : Int)) := by rw [ha]; exact (putSel_off rfl).trans rfl
              replace ha := Aside0.mk ha
              have HBB := Aside0.mk Q_HBB
              refine value_ (w1 := w') (v := .int .i64 (k.size : Int)) (by rfl) rfl ?_ ?_
              · go_simp
                (try simp only [i64_w])
                try (first | rfl | assumption)
              refine hK.out _ _ ⟨(by rw [ha.out]; exact putSel_upk 4 hb_ rfl rfl rfl), Q_HBB⟩
            refine steps_cons ?_ ?_
            · intro b a w' hI_ hb_ hon hoff
              refine ⟨_, rfl, fun K hK => ?_⟩
              obtain ⟨ha, Q_HBB⟩ := hI_
              have e35 : a.tmps[35]? = some (.int .i64 (k.size : Int)) := by rw [ha]; exact putSel_on (e := (4, 35, .int .i64 (k.size : Int))) 4 rfl rfl (hon 4 (by kernel_rfl)) rfl
              replace ha := Aside0.mk ha
              have HBB := Aside0.mk Q_HBB
              have hl4 := HL4.out
              refine value_ (w1 := w') (v := .int .i64 ((k.size : Int) + 1)) (by rfl) rfl ?_ ?_
              · go_simp
                (try simp only [i64_w])
                try (first | rfl | assumption)
              refine hK.out _ _ ⟨(by rw [ha.out]; exact putSel_upk 5 hb_ rfl rfl rfl), Q_HBB⟩
            refine steps_cons ?_ ?_
            · intro b a w' hI_ hb_ hon hoff
              refine ⟨_, rfl, fun K hK => ?_⟩
              obtain ⟨ha, Q_HBB⟩ := hI_
              have e34 : a.tmps[34]? = some (.string s) := by rw [ha]; exact putSel_on (e := (3, 34, .string s)) 3 rfl rfl (hon 3 (by kernel_rfl)) rfl
              have e36 : a.tmps[36]? = some (.int .i64 ((k.size : Int) + 1)) := by rw [ha]; exact putSel_on (e := (5, 36, .int .i64 ((k.size : Int) + 1))) 5 rfl rfl (hon 5 (by kernel_rfl)) rfl
              replace ha := Aside0.mk ha
              have HBB := Aside0.mk Q_HBB
              refine value_ (w1 := w') (v := .string (s.extract (k.size + 1) s.size)) (by rfl) rfl ?_ ?_
              · go_simp
                (try simp only [i64_w])
                try (first | rfl | assumption)
              refine hK.out _ _ ⟨(by rw [ha.out]; exact putSel_upk 6 hb_ rfl rfl rfl), Q_HBB⟩
            refine steps_cons ?_ ?_
            · intro b a w' hI_ hb_ hon hoff
              refine ⟨_, rfl, fun K hK => ?_⟩
              obtain ⟨ha, Q_HBB⟩ := hI_
              have e33 : a.tmps[33]? = some (.string (s.extract 0 k.size)) := by rw [ha]; exact putSel_on (e := (2, 33, .string (s.extract 0 k.size))) 2 rfl rfl (hon 2 (by kernel_rfl)) rfl
              replace ha := Aside0.mk ha
              have HBB := Aside0.mk Q_HBB
              refine value_ (w1 := w') (v := .string (s.extract 0 k.size)) (by rfl) rfl ?_ ?_
              · go_simp
                (try simp only [i64_w])
                try (first | rfl | assumption)
              refine hK.out _ _ ⟨(by rw [ha.out]; exact putSel_upk 7 hb_ rfl rfl rfl), Q_HBB⟩
            refine steps_cons ?_ ?_
            · intro b a w' hI_ hb_ hon hoff
              refine ⟨_, rfl, fun K hK => ?_⟩
              obtain ⟨ha, Q_HBB⟩ := hI_
              have e37 : a.tmps[37]? = some (.string (s.extract (k.size + 1) s.size)) := by rw [ha]; exact putSel_on (e := (6, 37, .string (s.extract (k.size + 1) s.size))) 6 rfl rfl (hon 6 (by kernel_rfl)) rfl
              replace ha := Aside0.mk ha
              have HBB := Aside0.mk Q_HBB
              refine value_ (w1 := w') (v := .string (s.extract (k.size + 1) s.size)) (by rfl) rfl ?_ ?_
              · go_simp
                (try simp only [i64_w])
                try (first | rfl | assumption)
              refine hK.out _ _ ⟨(by rw [ha.out]; exact putSel_upk 8 hb_ rfl rfl rfl), Q_HBB⟩
            refine steps_cons ?_ ?_
            · intro b a w' hI_ hb_ hon hoff
              refine ⟨_, rfl, fun K hK => ?_⟩
              obtain ⟨ha, Q_HBB⟩ := hI_
              replace ha := Aside0.mk ha
              have HBB := Aside0.mk Q_HBB
              refine value_ (w1 := w') (v := (Value.bool true)) (by rfl) rfl ?_ ?_
              · go_simp
                (try simp only [i64_w])
                try (first | rfl | assumption)
              refine hK.out _ _ ⟨(by rw [ha.out]; exact putSel_upk 9 hb_ rfl rfl rfl), Q_HBB⟩
            exact steps_nil
          rintro b a wz hall ⟨ha, Q_HBB⟩
          clear HBB
          have hb0_ := hall 0 (by kernel_rfl)
          have hb1_ := hall 1 (by kernel_rfl)
          have hb2_ := hall 2 (by kernel_rfl)
          have hb3_ := hall 3 (by kernel_rfl)
          have hb4_ := hall 4 (by kernel_rfl)
          have hb5_ := hall 5 (by kernel_rfl)
          have hb6_ := hall 6 (by kernel_rfl)
          have hb7_ := hall 7 (by kernel_rfl)
          have hb8_ := hall 8 (by kernel_rfl)
          have hb9_ := hall 9 (by kernel_rfl)
          subst ha
          simp only [putSel, hb0_, hb1_, hb2_, hb3_, hb4_, hb5_, hb6_, hb7_, hb8_, hb9_, if_true, Act.put, List.setIfInBounds_toArray, List.set_cons_zero, List.set_cons_succ]
          have HBB := Aside0.mk Q_HBB
          clear Q_HBB
          clear hall hb0_ hb1_ hb2_ hb3_ hb4_ hb5_ hb6_ hb7_ hb8_ hb9_
          go_wp2
          go_ret3
          exact ⟨by first | rfl | (rw [HE.out, HT.out]; rfl) | rw [HE.out, HT.out], HBB.out⟩
theorem refPartsYes (k v s : ByteArray) (w : World) (hs : s = k ++ (⟨#[58]⟩ : ByteArray) ++ v) (hk : mayL (bytesOf k) = true) (hv : mayL (bytesOf v) = true) (hz : s.size ≤ 1000000) :
    Calls Try.prog 19 #[.string s] w fun e w' => e = .returned (.tuple #[.string k, .string v, .bool true]) ∧ Below w.heap.size w w' := refPartsC true true k v s w hs (may_no58 hk) hk hv hz
theorem refPartsNo (s : ByteArray) (w : World) (h : ∀ k v : ByteArray, s = k ++ (⟨#[58]⟩ : ByteArray) ++ v → mayL (bytesOf k) = true → mayL (bytesOf v) = false) (hz : s.size ≤ 1000000) :
    Calls Try.prog 19 #[.string s] w fun e w' => e = .returned (.tuple #[.string ⟨#[]⟩, .string ⟨#[]⟩, .bool false]) ∧ Below w.heap.size w w' := by
  rcases split58 s with hn | ⟨k, v, hs, hk, hsz⟩
  · exact refPartsN s w hn hz
  · cases h1 : mayL (bytesOf k) with
    | false => exact refPartsC false _ k v s w hs hk h1 rfl hz
    | true => exact refPartsC true false k v s w hs hk h1 (h k v hs h1) hz
end Go.Proofs.Ytkbnckpcllfikaa.Nam

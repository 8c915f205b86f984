/- qcode.Take: its walk. qcode.taken, of projections: its walk. qcode.TakeDefs: its walk. Functions of the program, told as plain functions, with their walks: written by a program of this claim's out of the translation. The statement QcodeApart, of plain functions. Arguments of any shape, opened: what reads as data lies in memory as a list, a struct, a text .. Arguments that are texts and numbers, opened. Arguments that are queries and projections, opened. What the laws of queries call, on rows that are read. The statement QcodeMore: the walk of the law. -/
import Derived.Laws.EntriesVeiled
import Derived.ChangeArms
import Derived.OpenShut
import Derived.DataReads
import Derived.Deep.Slices
import Derived.Test.YtdpigeineephlaaYQcodeMore1
import Derived.Test.YtdpigeineephlaaYQcodeMore2
import Derived.Test.YtdpigeineephlaaYQcodeMore3
import Derived.Test.YtdpigeineephlaaYQcodeMore4
namespace Go.Proofs.Ytdpigeineephlaa.Prt
open Go.RowKit Go.Proofs.YtdpigeineephlaaW.PrintWords Go.Proofs.YtdpigeineephlaaW.PrintLast Go.Proofs.YtdpigeineephlaaW.PrintMore Go.Proofs.Ytdpigeineephlaa.Num Go.Proofs.Ytdpigeineephlaa.Nam
set_option linter.unusedVariables false
set_option linter.unusedSimpArgs false

theorem clauses_calls (P : Nat → Prop) (w : World) (g Rb Tb : Nat) (l : List Int) (b : Bool) (hR : w.heap[Rb]? = some (.cells #[.pointer (some ⟨g, 0, none⟩)] 44 (0, 0))) (hT : w.heap[Tb]? = some (.cells #[.func (.func 39) #[] #[.pointer (some ⟨Rb, 0, none⟩)]] 73 (0, 0))) (hne : Rb ≠ g) (hnt : Tb ≠ g) (hI : Rd 71 P w g l b) (hb : isBytes l) (hP : ∀ k, P k → k < w.heap.size) (r : (List S60 × Bool) × List Int × Bool) (hr : takeL stepC 4 l b = r) :
    Calls Try.prog 41 #[.pointer (some ⟨g, 0, none⟩), .int .i64 4, .func (.func 42) #[] #[.pointer (some ⟨Rb, 0, none⟩), .pointer (some ⟨Tb, 0, none⟩)]] w fun e w' =>
      ∃ v, e = .returned (.tuple #[v, .bool r.1.2]) ∧ Kd.S k60 60 w' w.heap.size (fun _ => True) v r.1.1 ∧ Lv w w' P g l.length r.2 :=
  takenCla_calls stepC 4 42 _ _ P w g l b hI hb hP (by decide) (by decide) (enters_of Try.func42 (by kernel_rfl) rfl) (fun w1 l1 b1 hL => claClo_calls P w1 g Rb Tb l1 b1 (hL.keep.blk hR hne (by simp)) (hL.keep.blk hT hnt (by simp)) hne hnt hL.rd hL.by_ (fun k hk => Nat.lt_of_lt_of_le (hP k hk) hL.keep.1)) r hr
theorem takeQ_calls (P : Nat → Prop) (w : World) (g : Nat) (l : List Int) (b : Bool) (hI : Rd 71 P w g l b) (hb : isBytes l) (hP : ∀ k, P k → k < w.heap.size) (r : List S60 × Int × List Int × Bool) (hr : takeQ l b = r) :
    Calls Try.prog 21 #[.pointer (some ⟨g, 0, none⟩)] w fun e w' => ∃ v, e = .returned (.tuple #[.agg #[v], .int .i64 r.2.1]) ∧ Kd.S k60 60 w' w.heap.size (fun _ => True) v r.1 ∧ Lv w w' P g l.length r.2.2 := by
  have HLE := Aside0.mk (takeL_left (stepC_left 9223372036854775807) 4 (by decide) l b hb hI.len)
  obtain ⟨⟨⟨m, ok⟩, l1, b1⟩, hq⟩ : ∃ q, takeL stepC 4 l b = q := ⟨_, rfl⟩
  rw [hq] at HLE
  have HST : Aside0 (r = if ok = false ∨ mayQ m ≠ 0 then ([], 2, (l1, b1)) else (m, 0, (l1, b1))) := ⟨by rw [← hr]; unfold takeQ; rw [hq]⟩
  have HGW := Aside0.mk hI.lt
  have HPP := Aside0.mk hP
  have HL0 := Aside0.mk (Lv.mk (n := l.length) (q := (l, b)) hI hb (Nat.le_refl _) (Below.refl g w) (KeepBut.refl w g none))
  have HQ := Aside0.mk hq
  clear hI hb hP hq hr
  have hu25 := Try.underlying25
  go_enter Try.func21, Try.ntmps21
  go_upto_region 1 with (first | ((with_reducible refine gate_dst (N := 1) rfl ?_); (try (refine gate_guard (by rfl) ?_; dsimp only)); refine box_event ?hg (N := 1) ?hd (cs := #[.pointer (some ⟨g, 0, none⟩)]) (t := 44) ?hr ?_; (case hd => rfl); (case hg => rfl); (case hr => first | (go_simp; done) | (go_simp; rfl)); intro Rb hg_ w1 hbox_ hb_; have HR := Aside0.mk hbox_; have HRN := Aside0.mk hg_; have HRB := Aside0.mk hb_; clear hbox_ hg_ hb_) | ((with_reducible refine gate_dst (N := 2) rfl ?_); (try (refine gate_guard (by rfl) ?_; dsimp only)); refine box_event ?hg (N := 2) ?hd (cs := #[.slice none 0 0]) (t := 25) ?hr ?_; (case hd => rfl); (case hg => rfl); (case hr => first | (go_simp; done) | (go_simp; rfl)); intro Q hg_ w2 hbox_ hb_; have HX := Aside0.mk hbox_; have HXN := Aside0.mk hg_; have HXB := Aside0.mk hb_; clear hbox_ hg_ hb_))
  have HRW := Aside0.mk (show w.heap.size ≤ Rb ∧ w.heap.size ≤ Q ∧ Rb ≠ g by
    have h1 := HRN.out
    have h2 := HXN.out
    have h3 := HRB.out.size
    have h4 := HGW.out
    omega)
  have HR2 := Aside0.mk (blk_below HR.out HXB.out)
  have HL2 := Aside0.mk ((HL0.out.up HRB.out).up HXB.out)
  clear HR HL0 HRN HXN HRB HXB
  have hr0 := blk_cell HR2.out 0
  go_upto_region 3 with (fail)
  go_upto_region 4 with (first | ((with_reducible refine gate_dst (N := 4) rfl ?_); (try (refine gate_guard (by rfl) ?_; dsimp only)); refine box_event ?hg (N := 4) ?hd (cs := #[.nilFunc]) (t := 73) ?hr ?_; (case hd => rfl); (case hg => rfl); (case hr => first | (go_simp; done) | (go_simp; rfl)); intro Tb hg_ w3 hbox_ hb_; have HT := Aside0.mk hbox_; have HTN := Aside0.mk hg_; have HTB := Aside0.mk hb_; clear hbox_ hg_ hb_; have ht0 := blk_cell HT.out 0; have hf0 := blk_frozen HT.out 0))
  have HTW := Aside0.mk (show w.heap.size ≤ Tb ∧ Tb ≠ Rb ∧ Tb ≠ Q ∧ Tb ≠ g by
    have h1 := HTN.out
    have h2 := blk_lt HR2.out
    have h3 := blk_lt HX.out
    have h4 := HL2.out.keep.1
    have h5 := HGW.out
    omega)
  have n1_ := Aside0.mk (blk_far (blk_below HR2.out HTB.out) (Ne.symm HTW.out.2.1) (p := ⟨Tb, 0, none⟩) (.func (.func 39) #[] #[.pointer (some ⟨Rb, 0, none⟩)]))
  have n2_ := Aside0.mk (blk_far (blk_below HX.out HTB.out) (Ne.symm HTW.out.2.2.1) (p := ⟨Tb, 0, none⟩) (.func (.func 39) #[] #[.pointer (some ⟨Rb, 0, none⟩)]))
  have n3_ := Aside0.mk ((HL2.out.up HTB.out).set HGW.out HPP.out HTW.out.1 0 (.func (.func 39) #[] #[.pointer (some ⟨Rb, 0, none⟩)]))
  have n4_ := Aside0.mk (blk_put (cs' := #[.func (.func 39) #[] #[.pointer (some ⟨Rb, 0, none⟩)]]) HT.out 0 (.func (.func 39) #[] #[.pointer (some ⟨Rb, 0, none⟩)]) rfl)
  clear HR2 HX HL2 HT HTN HTB hr0 ht0 hf0
  generalize w3.setCell ⟨Tb, 0, none⟩ (.func (.func 39) #[] #[.pointer (some ⟨Rb, 0, none⟩)]) = w4 at n1_ n2_ n3_ n4_ ⊢
  have HR4 := n1_
  have HX4 := n2_
  have HL4 := n3_
  have HT4 := n4_
  clear n1_ n2_ n3_ n4_
  have hr0 := blk_cell HR4.out 0
  go_wp2_with fail
  refine (clauses_calls P w4 g Rb Tb l b HR4.out HT4.out HRW.out.2.2 HTW.out.2.2.2 HL4.out.rd HL4.out.by_ (fun k hk => Nat.lt_of_lt_of_le (HPP.out k hk) HL4.out.keep.1) _ HQ.out).mono ?_
  rintro e w5 ⟨v, rfl, hS, hL⟩
  obtain ⟨A, c, ev⟩ := Kd.S_slice hS
  subst ev
  have HS5 := Aside0.mk (Kd.S_lower hS HL4.out.keep.1)
  have HX5 := Aside0.mk (hL.keep.blk HX4.out (by have := HGW.out; have := HRW.out.2.1; omega) (by simp))
  have HL5 := Aside0.mk (HL4.out.trans hL HL4.out.len)
  clear hS hL HR4 HX4 HL4 HT4 hr0
  go_upto_region 6 with (first | ((with_reducible refine gate_dst (N := 7) rfl ?_); (try (refine gate_guard (by rfl) ?_; dsimp only)); refine box_event ?hg (N := 7) ?hd (cs := #[.slice none 0 0]) (t := 25) ?hr ?_; (case hd => rfl); (case hg => rfl); (case hr => first | (go_simp; done) | (go_simp; rfl)); intro E hg_ w6 hbox_ hb_; have HE := Aside0.mk hbox_; have HEN := Aside0.mk hg_; have HEB := Aside0.mk hb_; clear hbox_ hg_ hb_; have he0 := blk_cell HE.out 0; have hf0 := blk_frozen HE.out 0))
  have HEW := Aside0.mk (show w.heap.size ≤ E ∧ E ≠ Q by
    have h1 := HEN.out
    have h2 := blk_lt HX5.out
    have h3 := HL5.out.keep.1
    omega)
  have n1_ := Aside0.mk (S_set (Kd.S_below HS5.out HEB.out) HE.out (by decide) 0 (.slice A m.length c))
  have n2_ := Aside0.mk (blk_far (blk_below HX5.out HEB.out) (Ne.symm HEW.out.2) (p := ⟨E, 0, none⟩) (.slice A m.length c))
  have n3_ := Aside0.mk ((HL5.out.up HEB.out).set HGW.out HPP.out HEW.out.1 0 (.slice A m.length c))
  have n4_ := Aside0.mk (blk_put (cs' := #[.slice A m.length c]) HE.out 0 (.slice A m.length c) rfl)
  clear HS5 HX5 HL5 HE HEN HEB he0 hf0
  generalize w6.setCell ⟨E, 0, none⟩ (.slice A m.length c) = w7 at n1_ n2_ n3_ n4_ ⊢
  cases ok with
  | false =>
    have HS2 := Aside0.mk (HST.out.trans (if_pos (.inl rfl)))
    clear HST
    have hq0 := blk_cell n2_.out 0
    have hf0 := blk_frozen n2_.out 0
    go_wp2_with fail
    have HE9 := blk_put (cs' := #[.slice none 0 0]) n2_.out 0 (.slice none 0 0) rfl
    refine bodyPost_ret (results_ct rfl _ _ Q 25 _ (0, 0) _ rfl HE9 Try.underlying25 rfl (by kernel_rfl)) rfl ?_
    rw [HS2.out]
    exact ⟨.slice none 0 0, rfl, Kd.S_nil _ _ _ _ _, n3_.out.set HGW.out HPP.out HRW.out.2.1 0 _⟩
  | true =>
    obtain ⟨-, hc, hC⟩ := Kd.S_reads' n1_.out
    have HM := Aside0.mk (query_May.calls A c m (mayQ m) w7 hC hc (if_pos (List.all_eq_true.2 fun x hx => fitC_iff.2 (HLE.out.2.2.1 x hx))))
    have he0 := blk_cell n4_.out 0
    clear hC hc
    go_wp2_with fail
    refine HM.out.mono ?_
    rintro e w8 ⟨rfl, hb8⟩
    have HS8 := Aside0.mk (Kd.S_below n1_.out hb8)
    have HX8 := Aside0.mk (blk_below n2_.out hb8)
    have HL8 := Aside0.mk (n3_.out.up hb8)
    have HE8 := Aside0.mk (blk_below n4_.out hb8)
    clear hb8 n1_ n2_ n3_ n4_ HM he0
    by_cases h0 : mayQ m = 0
    · have hbn : (mayQ m != 0) = false := bne_eq_false_iff_eq.mpr h0
      have HS2 := Aside0.mk (HST.out.trans (if_neg (by simp [h0])))
      clear HST h0
      have hq0 := blk_cell HX8.out 0
      have hf0 := blk_frozen HX8.out 0
      have he0 := blk_cell HE8.out 0
      go_wp2_with fail
      have HE9 := blk_put (cs' := #[.slice A m.length c]) HX8.out 0 (.slice A m.length c) rfl
      refine bodyPost_ret (results_ct rfl _ _ Q 25 _ (0, 0) _ rfl HE9 Try.underlying25 rfl (by kernel_rfl)) rfl ?_
      rw [HS2.out]
      exact ⟨.slice A m.length c, rfl, S_set HS8.out HX8.out (by decide) 0 _, HL8.out.set HGW.out HPP.out HRW.out.2.1 0 _⟩
    · have hbn : (mayQ m != 0) = true := bne_iff_ne.mpr h0
      have HS2 := Aside0.mk (HST.out.trans (if_pos (.inr h0)))
      clear HST h0
      have hq0 := blk_cell HX8.out 0
      have hf0 := blk_frozen HX8.out 0
      go_wp2_with fail
      have HE9 := blk_put (cs' := #[.slice none 0 0]) HX8.out 0 (.slice none 0 0) rfl
      refine bodyPost_ret (results_ct rfl _ _ Q 25 _ (0, 0) _ rfl HE9 Try.underlying25 rfl (by kernel_rfl)) rfl ?_
      rw [HS2.out]
      exact ⟨.slice none 0 0, rfl, Kd.S_nil _ _ _ _ _, HL8.out.set HGW.out HPP.out HRW.out.2.1 0 _⟩
end Go.Proofs.Ytdpigeineephlaa.Prt
namespace Go.Proofs.Ytdpigeineephlaa.Prt
open Go.RowKit Go.Proofs.YtdpigeineephlaaW.PrintWords Go.Proofs.YtdpigeineephlaaW.PrintLast Go.Proofs.YtdpigeineephlaaW.PrintMore Go.Proofs.Ytdpigeineephlaa.Num Go.Proofs.Ytdpigeineephlaa.Nam
set_option linter.unusedVariables false
set_option linter.unusedSimpArgs false
theorem info_def : (Try.prog.info? 36).map (fun i => (i.zero, i.size, i.bytes)) = some (some (.agg #[.int .i64 0, .string ⟨#[]⟩, .slice none 0 0]), 3, 48) := by kernel_rfl
theorem takenDef_calls (step : Stp S36) (most : Int) (G : Nat) (q1 : Value) (P : Nat → Prop) (w : World) (g : Nat) (l : List Int) (bad : Bool) (hI : Rd 71 P w g l bad) (hb : isBytes l) (hP : ∀ k, P k → k < w.heap.size) (hm0 : 0 ≤ most) (hm1 : most ≤ 1000)
    (hent : ∀ (xs : Array Value) (W : World), (callFunc G xs).run Try.prog W = .ok (.enter G xs) W)
    (hs : ∀ w1 l1 b1, Lv w w1 P g l.length (l1, b1) → Calls Try.prog G #[q1] w1 fun e w2 => ∃ v2, e = .returned (.tuple #[.agg #[.int .i64 (step l1 b1).1.1.f0, .string (step l1 b1).1.1.f1, v2], .bool (step l1 b1).1.2]) ∧ k60.R 60 w2 w1.heap.size (fun _ => True) v2 (step l1 b1).1.1.f2.f0 ∧ Lv w1 w2 P g l1.length (step l1 b1).2)
    (r : (List S36 × Bool) × List Int × Bool) (hr : takeL step most l bad = r) :
    Calls Try.prog 46 #[.pointer (some ⟨g, 0, none⟩), .int .i64 most, .func (.func G) #[] #[q1]] w fun e w' =>
      ∃ v, e = .returned (.tuple #[v, .bool r.1.2]) ∧ Kd.S k36 36 w' w.heap.size (fun _ => True) v r.1.1 ∧ Lv w w' P g l.length r.2 := by
  obtain ⟨x, hx⟩ : ∃ x, numOf l = x := ⟨_, rfl⟩
  have hri := numOf_i64 hb
  rw [hx] at hri
  obtain ⟨hr1, hr2⟩ := hri
  unfold takeL at hr
  rw [hx] at hr
  have HN := Aside0.mk (num_calls' x P w g l bad hI hb hx)
  have HAB := Aside0.mk (And.intro (aft_bytes hb) (aft_len l hb))
  have HS := Aside0.mk hs
  have HPP := Aside0.mk hP
  have HGW := Aside0.mk hI.lt
  have HR := Aside0.mk hr
  clear hI hb hs hx hP hr
  have hu36 := Try.underlying36
  by_cases hneg : x < 0
  · have hd : decide (x < 0) = true := decide_eq_true hneg
    go_enter Try.func46, Try.ntmps46
    go_wp2_with fail
    refine HN.out.mono ?_
    rintro e w1 ⟨rfl, hI1, hb1, hk1⟩
    have n1_ := Aside0.mk (Lv.mk (n := l.length) (q := (aft l, badOf l bad)) hI1 HAB.out.1 HAB.out.2 hb1 hk1)
    clear hI1 hb1 hk1
    go_wp2
    go_ret2
    rw [← HR.out, if_pos (.inl hneg)]
    exact ⟨_, rfl, Kd.S_nil _ _ _ _ _, n1_.out⟩
  have hd : decide (x < 0) = false := decide_eq_false hneg
  by_cases hbig : most < x
  · have hd2 : decide (most < x) = true := decide_eq_true hbig
    go_enter Try.func46, Try.ntmps46
    go_wp2_with fail
    refine HN.out.mono ?_
    rintro e w1 ⟨rfl, hI1, hb1, hk1⟩
    have n1_ := Aside0.mk (Lv.mk (n := l.length) (q := (aft l, badOf l bad)) hI1 HAB.out.1 HAB.out.2 hb1 hk1)
    clear hI1 hb1 hk1
    go_wp2
    go_ret2
    rw [← HR.out, if_pos (.inr hbig)]
    exact ⟨_, rfl, Kd.S_nil _ _ _ _ _, n1_.out⟩
  have hd2 : decide (most < x) = false := decide_eq_false hbig
  obtain ⟨n, rfl⟩ := Int.eq_ofNat_of_zero_le (Int.not_lt.1 hneg)
  have HR2 := Aside0.mk ((if_neg (by omega : ¬ ((n : Int) < 0 ∨ most < (n : Int)))).symm.trans HR.out)
  rw [Int.toNat_natCast] at HR2
  clear HR
  go_enter Try.func46, Try.ntmps46
  go_wp2_with fail
  refine HN.out.mono ?_
  rintro e w1 ⟨rfl, hI1, hb1, hk1⟩
  have n1_ := Aside0.mk (Lv.mk (n := l.length) (q := (aft l, badOf l bad)) hI1 HAB.out.1 HAB.out.2 hb1 hk1)
  clear hI1 hb1 hk1 HN
  go_wp2
  go_loopg [9, 22] n (fun k v9 v22 w' => ∃ (i : Nat) (l1 : List Int) (b1 : Bool) (acc : List S36), v22 = .int .i64 (i : Int) ∧ Aside0 (i + k = n) ∧ Aside0 (acc.length = i) ∧ Aside0 (takeN step k l1 b1 acc = r) ∧ Aside0 (Kd.S k36 36 w' w.heap.size (fun _ => True) v9 acc) ∧ Aside0 (Lv w w' P g l.length (l1, b1)))
  case atStart => exact ⟨0, _, _, [], rfl, ⟨by omega⟩, ⟨rfl⟩, HR2, ⟨Kd.S_nil _ _ _ _ _⟩, n1_⟩
  case round =>
    clear HR2 n1_
    obtain ⟨i, l1, b1, acc, rfl, HE, HAL, HR, HO, HL⟩ := hrel
    obtain ⟨A9, c9, e9⟩ := Kd.S_slice HO.out
    subst e9
    by_cases hlt : i < n
    · have hb1 : decide ((i : Int) < (n : Int)) = true := decide_eq_true (by omega)
      obtain ⟨k, rfl⟩ : ∃ m, gk = m + 1 := ⟨gk - 1, by have := HE.out; omega⟩
      have HC := Aside0.mk (HS.out wr l1 b1 HL.out)
      obtain ⟨⟨⟨y, ok⟩, l2, b2⟩, hq⟩ : ∃ q, step l1 b1 = q := ⟨_, rfl⟩
      rw [hq] at HC
      have HQ := Aside0.mk hq
      clear hq
      go_wp2_with fail
      refine HC.out.mono ?_
      rintro e w2 ⟨v2, rfl, h2, hl2⟩
      have HO2 : Aside0 (Kd.S k36 36 w2 w.heap.size (fun k => k < wr.heap.size) (.slice A9 acc.length c9) acc) := ⟨by
        obtain ⟨A', c', hblk, _⟩ := HL.out.rd
        exact S_turnG HO.out hblk (by decide) hl2.keep⟩
      have HL2 := Aside0.mk (HL.out.trans hl2 HL.out.len)
      have HSZ := Aside0.mk (And.intro hl2.keep.1 HL.out.keep.1)
      have H2 := Aside0.mk h2
      clear hl2 HO HL HC h2
      obtain ⟨A2, c2, e2⟩ := Kd.R_slice H2.out
      subst e2
      go_upto_region 8 with (first | ((with_reducible refine gate_dst (N := 10) rfl ?_); (try (refine gate_guard (by rfl) ?_; dsimp only)); refine box_event ?hg (N := 10) ?hd (cs := #[.int .i64 0, .string (⟨#[]⟩ : ByteArray), .slice none 0 0]) (t := 36) ?hr ?_; (case hd => rfl); (case hg => rfl); (case hr => first | (go_simp; done) | (go_simp; rfl)); intro B hg_ w3 hbox_ hb_; have HBX := Aside0.mk hbox_; have HBN := Aside0.mk hg_; have HBB := Aside0.mk hb_; clear hbox_ hg_ hb_; have hq0 := blk_cell HBX.out 0; have hf0 := blk_frozen HBX.out 0; have hq1 := blk_cell HBX.out 1; have hf1 := blk_frozen HBX.out 1; have hq2 := blk_cell HBX.out 2; have hf2 := blk_frozen HBX.out 2))
      have HBG : Aside0 (wr.heap.size ≤ B ∧ w.heap.size ≤ B) := ⟨by have := HBN.out; have := HSZ.out.1; have := HSZ.out.2; omega⟩
      have n1_ := Aside0.mk (Kd.S_far (p := ⟨B, 2, none⟩) (Kd.S_far (p := ⟨B, 1, none⟩) (Kd.S_far (p := ⟨B, 0, none⟩) (Kd.S_below HO2.out HBB.out) (fun k hk => by have := HBG.out.1; show k ≠ B; omega) (.int .i64 y.f0)) (fun k hk => by have := HBG.out.1; show k ≠ B; omega) (.string y.f1)) (fun k hk => by have := HBG.out.1; show k ≠ B; omega) (.slice A2 y.f2.f0.length c2))
      have n4_ := Aside0.mk (((((HL2.out.up HBB.out).set HGW.out HPP.out HBG.out.2 0 (.int .i64 y.f0)).set HGW.out HPP.out HBG.out.2 1 (.string y.f1)).set HGW.out HPP.out HBG.out.2 2 (.slice A2 y.f2.f0.length c2)))
      have n6_ := Aside0.mk ((blk_put (cs' := #[.int .i64 y.f0, .string y.f1, .slice A2 y.f2.f0.length c2]) (blk_put (cs' := #[.int .i64 y.f0, .string y.f1, .slice none 0 0]) (blk_put (cs' := #[.int .i64 y.f0, .string (⟨#[]⟩ : ByteArray), .slice none 0 0]) HBX.out 0 (.int .i64 y.f0) rfl) 1 (.string y.f1) rfl) 2 (.slice A2 y.f2.f0.length c2) rfl))
      have r2_ := Aside0.mk (R_setA3 (Kd.R_below H2.out HBB.out) HBX.out (by decide) (.int .i64 y.f0) (.string y.f1) (.slice A2 y.f2.f0.length c2))
      clear H2
      have HW3 := Aside0.mk (Nat.le_trans HSZ.out.1 HBB.out.size)
      clear HO2 HL2 HBX HBN HBB hq0 hf0 hq1 hf1 hq2 hf2
      generalize ((w3.setCell ⟨B, 0, none⟩ (.int .i64 y.f0)).setCell ⟨B, 1, none⟩ (.string y.f1)).setCell ⟨B, 2, none⟩ (.slice A2 y.f2.f0.length c2) = w4 at n1_ n4_ n6_ r2_ ⊢
      cases ok with
      | false =>
        have HR3 := Aside0.mk ((takeN_no HQ.out (.inl rfl)).symm.trans HR.out)
        clear HQ HR
        go_wp2_with fail
        go_ret2
        rw [← HR3.out]
        exact ⟨_, rfl, Kd.S_nil _ _ _ _ _, n4_.out⟩
      | true =>
        go_wp2_with fail
        refine (bad_calls P w4 g l2 b2 n4_.out.rd).mono ?_
        rintro e w5 ⟨rfl, rfl⟩
        cases b2 with
        | true =>
          have HR3 := Aside0.mk ((takeN_no HQ.out (.inr rfl)).symm.trans HR.out)
          clear HQ HR
          go_wp2_with fail
          go_ret2
          rw [← HR3.out]
          exact ⟨_, rfl, Kd.S_nil _ _ _ _ _, n4_.out⟩
        | false =>
          have HR3 := Aside0.mk ((takeN_ok HQ.out rfl).symm.trans HR.out)
          clear HQ HR
          have hlen : acc.length ≤ 1000 := by have := HAL.out; omega
          have hq0 := blk_cell n6_.out 0
          have hq1 := blk_cell n6_.out 1
          have hq2 := blk_cell n6_.out 2
          have HAP : Aside0 (∀ k, wr.heap.size ≤ k → True ∧ some k ≠ (Value.slice A9 acc.length c9).ownBlock) := ⟨fun k hk => ⟨trivial, fun e_ => by have h_ := (Kd.S_R n1_.out).1 k e_.symm; omega⟩⟩
          have HAQ : Aside0 (Kd.S k36 36 w4 w.heap.size (fun k => True ∧ ¬ wr.heap.size ≤ k) (.slice A9 acc.length c9) acc) := ⟨Kd.S_mono n1_.out (fun k hk => ⟨trivial, by omega⟩)⟩
          have HMK : Aside0 ((k36).M w4 w.heap.size (fun k => wr.heap.size ≤ k) y [.int .i64 y.f0, .string y.f1, .slice A2 y.f2.f0.length c2]) := ⟨k36_mkM _ _ _ y (Kd.R_lower (Kd.R_mono (Kd.R_bound r2_.out) (fun k hk => hk.2.1)) HSZ.out.2)⟩
          go_wp2_with (first | ((with_reducible refine gate_builtin (b := .append) (xs := #[.tmp 35, .tmp 37]) rfl ?_); at_builtin; refine Kd.S_append k36 (w0 := w4) w.heap.size rfl (.tmp 35) (.tmp 37) 26 36 (.agg #[.int .i64 0, .string (⟨#[]⟩ : ByteArray), .slice none 0 0]) 48 rfl Try.underlying26 info_def rfl (by decide) (by omega) (.slice A9 acc.length c9) acc y [.int .i64 y.f0, .string y.f1, .slice A2 y.f2.f0.length c2] (fun _ => True) (fun k => wr.heap.size ≤ k) rfl rfl HMK.out HAP.out (fun _ _ => trivial) HAQ.out (Below.refl _ _) n4_.out.keep.1 (by omega) ?_; intro v w6 ho hb hg hat; have HO5 := Aside0.mk ho; have HL5 := Aside0.mk (n4_.out.grown HGW.out HPP.out hg (Kd.S_base n1_.out) (n4_.out.below.trans (hb.mono (Nat.le_of_lt HGW.out)))); clear ho hb hg hat))
          go_roundg k
          case measure => omega
          case rel => exact ⟨i + 1, l2, false, acc ++ [y], by go_num, ⟨by have := HE.out; omega⟩, ⟨by have := HAL.out; rw [List.length_append, List.length_singleton]; omega⟩, HR3, HO5, HL5⟩
    · have hb1 : decide ((i : Int) < (n : Int)) = false := decide_eq_false (by omega)
      have hk0 : gk = 0 := by have := HE.out; omega
      subst hk0
      go_wp2_with fail
      refine (bad_calls P wr g l1 b1 HL.out.rd).mono ?_
      rintro e w3 ⟨rfl, rfl⟩
      go_wp2
      go_ret2
      rw [← HR.out]
      exact ⟨_, rfl, HO.out, HL.out⟩
end Go.Proofs.Ytdpigeineephlaa.Prt
namespace Go.Proofs.Ytdpigeineephlaa.Prt
open Go.RowKit Go.Proofs.YtdpigeineephlaaW.PrintWords Go.Proofs.YtdpigeineephlaaW.PrintLast Go.Proofs.YtdpigeineephlaaW.PrintMore Go.Proofs.Ytdpigeineephlaa.Num Go.Proofs.Ytdpigeineephlaa.Nam
set_option linter.unusedVariables false
set_option linter.unusedSimpArgs false

theorem defClo_calls (P : Nat → Prop) (w : World) (g Rb : Nat) (l : List Int) (b : Bool) (hR : w.heap[Rb]? = some (.cells #[.pointer (some ⟨g, 0, none⟩)] 44 (0, 0))) (hne : Rb ≠ g) (hI : Rd 71 P w g l b) (hb : isBytes l) (hP : ∀ k, P k → k < w.heap.size) :
    Calls Try.prog 47 #[.pointer (some ⟨Rb, 0, none⟩)] w fun e w' => ∃ v2, e = .returned (.tuple #[.agg #[.int .i64 (stepD l b).1.1.f0, .string (stepD l b).1.1.f1, v2], .bool (stepD l b).1.2]) ∧ k60.R 60 w' w.heap.size (fun _ => True) v2 (stepD l b).1.1.f2.f0 ∧ Lv w w' P g l.length (stepD l b).2 := by
  obtain ⟨k, hk⟩ : ∃ k, numOf l = k := ⟨_, rfl⟩
  obtain ⟨s, hs⟩ : ∃ s, textOf (aft l) = s := ⟨_, rfl⟩
  obtain ⟨⟨m, c, l3, b3⟩, hq⟩ : ∃ q, takeQ (aftT (aft l)) (badT (aft l) (badOf l b)) = q := ⟨_, rfl⟩
  have HST : Aside0 (stepD l b = ((⟨k, s, ⟨m⟩⟩, decide (c = 0)), (l3, b3))) := ⟨by unfold stepD; rw [hk, hs, hq]⟩
  have HR := Aside0.mk hR
  have HNE := Aside0.mk hne
  have HGW := Aside0.mk hI.lt
  have HPP := Aside0.mk hP
  have HL0 := Aside0.mk (Lv.mk (n := l.length) (q := (l, b)) hI hb (Nat.le_refl _) (Below.refl g w) (KeepBut.refl w g none))
  have HK := Aside0.mk hk
  have HS := Aside0.mk hs
  have HQ := Aside0.mk hq
  have HY := Aside0.mk (show isBytes (aft l) ∧ (aft l).length ≤ l.length ∧ isBytes (aftT (aft l)) ∧ (aftT (aft l)).length ≤ (aft l).length from ⟨aft_bytes hb, aft_len l hb, aftT_bytes (aft_bytes hb), aftT_len _ (aft_bytes hb)⟩)
  clear hR hne hI hb hP hk hs hq
  have hu36 := Try.underlying36
  have hu25 := Try.underlying25
  go_enter Try.func47, Try.ntmps47
  go_upto_region 1 with (first | ((with_reducible refine gate_dst (N := 1) rfl ?_); (try (refine gate_guard (by rfl) ?_; dsimp only)); refine box_event ?hg (N := 1) ?hd (cs := #[.int .i64 0, .string (⟨#[]⟩ : ByteArray), .slice none 0 0]) (t := 36) ?hr ?_; (case hd => rfl); (case hg => rfl); (case hr => first | (go_simp; done) | (go_simp; rfl)); intro Q hg_ w1 hbox_ hb_; have HX := Aside0.mk hbox_; have HXN := Aside0.mk hg_; have HXB := Aside0.mk hb_; clear hbox_ hg_ hb_))
  have HQW := Aside0.mk (show w.heap.size ≤ Q ∧ Q ≠ g by have h1 := HXN.out; have h2 := HGW.out; omega)
  have HR1 := Aside0.mk (blk_below HR.out HXB.out)
  have HL1 := Aside0.mk (HL0.out.up HXB.out)
  clear HL0 HXN HXB
  have hr0 := blk_cell HR1.out 0
  go_wp2_with fail
  refine (num_calls' k P w1 g l b HL1.out.rd HL1.out.by_ HK.out).mono ?_
  rintro e w2 ⟨rfl, hI, hb, hkk⟩
  have HL2 := Aside0.mk (HL1.out.trans (Lv.mk (n := l.length) (q := (aft l, badOf l b)) hI HY.out.1 HY.out.2.1 hb hkk) (Nat.le_refl _))
  have HX2 := Aside0.mk (hkk.blk HX.out HQW.out.2 (by simp))
  have HR2 := Aside0.mk (hkk.blk HR1.out HNE.out (by simp))
  clear hI hb hkk HL1 HX HR1 hr0
  have hq0 := blk_cell HX2.out 0
  have hf0 := blk_frozen HX2.out 0
  go_upto_region 2 with (fail)
  have n1_ := Aside0.mk (blk_put (cs' := #[.int .i64 k, .string (⟨#[]⟩ : ByteArray), .slice none 0 0]) HX2.out 0 (.int .i64 k) rfl)
  have n2_ := Aside0.mk (HL2.out.set HGW.out HPP.out HQW.out.1 0 (.int .i64 k))
  clear HX2 HL2 HR2 hq0 hf0
  generalize w2.setCell ⟨Q, 0, none⟩ (.int .i64 k) = w3 at n1_ n2_ ⊢
  have HX3 := n1_
  have HL3 := n2_
  clear n1_ n2_
  have HR3 := Aside0.mk (HL3.out.keep.blk HR.out HNE.out (by simp))
  have hr0 := blk_cell HR3.out 0
  have HTX := Aside0.mk (text_calls P w3 g (aft l) (badOf l b) HL3.out.rd HY.out.1)
  rw [HS.out] at HTX
  go_wp2_with fail
  refine HTX.out.mono ?_
  rintro e w4 ⟨rfl, hI, hb, hkk⟩
  have HL4 := Aside0.mk (HL3.out.trans (Lv.mk (n := (aft l).length) (q := (aftT (aft l), badT (aft l) (badOf l b))) hI HY.out.2.2.1 HY.out.2.2.2 hb hkk) HY.out.2.1)
  have HX4 := Aside0.mk (hkk.blk HX3.out HQW.out.2 (by simp))
  clear hI hb hkk HL3 HX3 HR3 hr0 HTX
  have hq0 := blk_cell HX4.out 1
  have hf0 := blk_frozen HX4.out 1
  go_upto_region 3 with (fail)
  have n1_ := Aside0.mk (blk_put (cs' := #[.int .i64 k, .string s, .slice none 0 0]) HX4.out 1 (.string s) rfl)
  have n2_ := Aside0.mk (HL4.out.set HGW.out HPP.out HQW.out.1 1 (.string s))
  clear HX4 HL4 hq0 hf0
  generalize w4.setCell ⟨Q, 1, none⟩ (.string s) = w5 at n1_ n2_ ⊢
  have HX5 := n1_
  have HL5 := n2_
  clear n1_ n2_
  have HR5 := Aside0.mk (HL5.out.keep.blk HR.out HNE.out (by simp))
  have hr0 := blk_cell HR5.out 0
  go_wp2_with fail
  refine (takeQ_calls P w5 g (aftT (aft l)) (badT (aft l) (badOf l b)) HL5.out.rd HY.out.2.2.1 (fun k hk => Nat.lt_of_lt_of_le (HPP.out k hk) HL5.out.keep.1) _ HQ.out).mono ?_
  rintro e w6 ⟨v, rfl, hS, hL⟩
  obtain ⟨A, cc, ev⟩ := Kd.S_slice hS
  subst ev
  have HS6 := Aside0.mk (Kd.S_lower hS HL5.out.keep.1)
  have HX6 := Aside0.mk (hL.keep.blk HX5.out HQW.out.2 (by simp))
  have HL6 := Aside0.mk (HL5.out.trans hL HL5.out.len)
  clear hS hL HL5 HX5 HR5 hr0
  go_upto_region 4 with (first | ((with_reducible refine gate_dst (N := 3) rfl ?_); (try (refine gate_guard (by rfl) ?_; dsimp only)); refine box_event ?hg (N := 3) ?hd (cs := #[.slice none 0 0]) (t := 25) ?hr ?_; (case hd => rfl); (case hg => rfl); (case hr => first | (go_simp; done) | (go_simp; rfl)); intro E hg_ w7 hbox_ hb_; have HE := Aside0.mk hbox_; have HEN := Aside0.mk hg_; have HEB := Aside0.mk hb_; clear hbox_ hg_ hb_; have he0 := blk_cell HE.out 0; have hf0 := blk_frozen HE.out 0))
  have HEW := Aside0.mk (show w.heap.size ≤ E ∧ E ≠ Q by
    have h1 := HEN.out
    have h2 := blk_lt HX6.out
    have h3 := HL6.out.keep.1
    omega)
  have n1_ := Aside0.mk (S_set (Kd.S_below HS6.out HEB.out) HE.out (by decide) 0 (.slice A m.length cc))
  have n2_ := Aside0.mk (blk_far (blk_below HX6.out HEB.out) (Ne.symm HEW.out.2) (p := ⟨E, 0, none⟩) (.slice A m.length cc))
  have n3_ := Aside0.mk ((HL6.out.up HEB.out).set HGW.out HPP.out HEW.out.1 0 (.slice A m.length cc))
  have n4_ := Aside0.mk (blk_put (cs' := #[.slice A m.length cc]) HE.out 0 (.slice A m.length cc) rfl)
  clear HS6 HX6 HL6 HE HEN HEB he0 hf0
  generalize w7.setCell ⟨E, 0, none⟩ (.slice A m.length cc) = w8 at n1_ n2_ n3_ n4_ ⊢
  have he0 := blk_cell n4_.out 0
  have hq2 := blk_cell n2_.out 2
  have hf2 := blk_frozen n2_.out 2
  go_upto_region 5 with (fail)
  have m1_ := Aside0.mk (S_set n1_.out n2_.out (by decide) 2 (.slice A m.length cc))
  have m2_ := Aside0.mk (blk_put (cs' := #[.int .i64 k, .string s, .slice A m.length cc]) n2_.out 2 (.slice A m.length cc) rfl)
  have m3_ := Aside0.mk (n3_.out.set HGW.out HPP.out HQW.out.1 2 (.slice A m.length cc))
  clear n1_ n2_ n3_ n4_ he0 hq2 hf2
  generalize w8.setCell ⟨Q, 2, none⟩ (.slice A m.length cc) = w9 at m1_ m2_ m3_ ⊢
  have hq0 := blk_cell m2_.out 0
  have hq1 := blk_cell m2_.out 1
  have hq2 := blk_cell m2_.out 2
  have hf0 := blk_frozen m2_.out 0
  have hf1 := blk_frozen m2_.out 1
  have hf2 := blk_frozen m2_.out 2
  have hbc : (c == 0) = decide (c = 0) := rfl
  go_wp2_with fail
  have HE9 := blk_put (cs' := #[.int .i64 k, .string s, .slice A m.length cc]) (blk_put (cs' := #[.int .i64 k, .string s, .slice A m.length cc]) (blk_put (cs' := #[.int .i64 k, .string s, .slice A m.length cc]) m2_.out 0 (.int .i64 k) rfl) 1 (.string s) rfl) 2 (.slice A m.length cc) rfl
  refine bodyPost_ret (results_ct rfl _ _ Q 36 _ (0, 0) _ rfl HE9 Try.underlying36 rfl (by kernel_rfl)) rfl ?_
  rw [HST.out]
  exact ⟨.slice A m.length cc, rfl, R_setA3 (Kd.S_R m1_.out) m2_.out (by decide) _ _ _, ((m3_.out.set HGW.out HPP.out HQW.out.1 0 _).set HGW.out HPP.out HQW.out.1 1 _).set HGW.out HPP.out HQW.out.1 2 _⟩
theorem defs_calls (P : Nat → Prop) (w : World) (g Rb : Nat) (l : List Int) (b : Bool) (hR : w.heap[Rb]? = some (.cells #[.pointer (some ⟨g, 0, none⟩)] 44 (0, 0))) (hne : Rb ≠ g) (hI : Rd 71 P w g l b) (hb : isBytes l) (hP : ∀ k, P k → k < w.heap.size) (r : (List S36 × Bool) × List Int × Bool) (hr : takeL stepD 4 l b = r) :
    Calls Try.prog 46 #[.pointer (some ⟨g, 0, none⟩), .int .i64 4, .func (.func 47) #[] #[.pointer (some ⟨Rb, 0, none⟩)]] w fun e w' =>
      ∃ v, e = .returned (.tuple #[v, .bool r.1.2]) ∧ Kd.S k36 36 w' w.heap.size (fun _ => True) v r.1.1 ∧ Lv w w' P g l.length r.2 :=
  takenDef_calls stepD 4 47 _ P w g l b hI hb hP (by decide) (by decide) (enters_of Try.func47 (by kernel_rfl) rfl) (fun w1 l1 b1 hL => defClo_calls P w1 g Rb l1 b1 (hL.keep.blk hR hne (by simp)) hne hL.rd hL.by_ (fun k hk => Nat.lt_of_lt_of_le (hP k hk) hL.keep.1)) r hr
end Go.Proofs.Ytdpigeineephlaa.Prt
namespace Go.Proofs.Ytdpigeineephlaa.Prt
open Go.RowKit Go.Proofs.YtdpigeineephlaaW.PrintWords Go.Proofs.YtdpigeineephlaaW.PrintLast Go.Proofs.YtdpigeineephlaaW.PrintMore Go.Proofs.Ytdpigeineephlaa.Num Go.Proofs.Ytdpigeineephlaa.Nam
set_option linter.unusedVariables false
set_option linter.unusedSimpArgs false

theorem takeDs_calls (A0 : Option Addr) (c0 : Nat) (l0 : List Int) (w : World) (hr0 : Kd.C (Kd.int .u8) w A0 l0.length l0) (hc0 : l0.length ≤ c0) (hby : isBytes l0) (r1 : List S36) (r2 : Int) (h : takeDs l0 = (r1, r2)) :
    Calls Try.prog 23 #[.slice A0 l0.length c0] w fun e w' => ∃ v0_ : Value, e = .returned (.tuple #[v0_, .int .i64 r2]) ∧ Kd.S k36 36 w' w.heap.size (fun _ => True) v0_ r1 ∧ Below w.heap.size w w' := by
  have HLE := Aside0.mk (takeL_left (stepD_left 9223372036854775807) 4 (by decide) l0 false hby (Kd.C_max hr0))
  obtain ⟨⟨⟨m, ok⟩, l1, b1⟩, hq⟩ : ∃ q, takeL stepD 4 l0 false = q := ⟨_, rfl⟩
  rw [hq] at HLE
  obtain ⟨⟨p, pe⟩, hp⟩ : ∃ q, putDs m = q := ⟨_, rfl⟩
  have HST : Aside0 ((r1, r2) = if ok = false ∨ pe ≠ 0 ∨ p ≠ l0 then ([], 2) else (m, 0)) := ⟨by rw [← h]; unfold takeDs; rw [hq]; simp only; rw [hp]⟩
  have HFIT := Aside0.mk (show qcode_PutDefs.f m = some (p, pe) by
    rw [← hp]
    exact if_pos (List.all_eq_true.2 fun x hx => fitD_iff.2 ⟨List.all_eq_true.2 fun y hy => fitC_iff.2 ((HLE.out.2.2.1 x hx).2 y hy), (HLE.out.2.2.1 x hx).1⟩))
  have HPB : Aside0 (isBytes p) := ⟨by
    have := congrArg (fun z => z.1) hp
    simp only at this
    rw [← this]
    unfold putDs
    split
    · intro c hc; simp at hc
    · split
      · intro c hc; simp at hc
      · exact encDs_bytes _⟩
  have HR0 := Aside0.mk hr0
  have HC0 := Aside0.mk hc0
  have HBY := Aside0.mk hby
  have HQ := Aside0.mk hq
  clear hr0 hc0 hby h hq hp
  go_enter Try.func23, Try.ntmps23
  go_wp2_with fail
  refine (newReader_calls A0 c0 l0 w HR0.out HC0.out).mono ?_
  rintro e w1 ⟨g, rfl, hI, hb, hg⟩
  have HI1 := Aside0.mk hI
  have HB1 := Aside0.mk hb
  have HG := Aside0.mk hg
  clear hI hb hg
  go_upto_region 2 with (first | ((with_reducible refine gate_dst (N := 4) rfl ?_); (try (refine gate_guard (by rfl) ?_; dsimp only)); refine box_event ?hg (N := 4) ?hd (cs := #[.pointer none]) (t := 44) ?hr ?_; (case hd => rfl); (case hg => rfl); (case hr => first | (go_simp; done) | (go_simp; rfl)); intro Rb hg_ w2 hbox_ hb_; have HX := Aside0.mk hbox_; have HXN := Aside0.mk hg_; have HXB := Aside0.mk hb_; clear hbox_ hg_ hb_; have hx0 := blk_cell HX.out 0; have hf0 := blk_frozen HX.out 0))
  have HRW := Aside0.mk (show w.heap.size ≤ Rb ∧ Rb ≠ g by
    have h1 := HXN.out
    have h2 := HI1.out.lt
    have h3 := HB1.out.size
    omega)
  have n1_ := Aside0.mk (blk_put (cs' := #[.pointer (some ⟨g, 0, none⟩)]) HX.out 0 (.pointer (some ⟨g, 0, none⟩)) rfl)
  have n2_ := Aside0.mk ((HI1.out.below HXB.out).kept ((KeepBut.refl _ Rb none).set_ 0 (.pointer (some ⟨g, 0, none⟩))) (Ne.symm HRW.out.2) (by have := HRW.out.1; omega))
  have n3_ := Aside0.mk ((below_step HB1.out HXB.out).setCell (p := ⟨Rb, 0, none⟩) HRW.out.1 (.pointer (some ⟨g, 0, none⟩)))
  clear HI1 HB1 HX HXN HXB hx0 hf0
  generalize w2.setCell ⟨Rb, 0, none⟩ (.pointer (some ⟨g, 0, none⟩)) = w3 at n1_ n2_ n3_ ⊢
  have HR3 := n1_
  have HI3 := n2_
  have HB3 := n3_
  clear n1_ n2_ n3_
  have hr0 := blk_cell HR3.out 0
  go_wp2_with fail
  refine (defs_calls _ w3 g Rb l0 false HR3.out HRW.out.2 HI3.out HBY.out (fun k hk => Nat.lt_of_lt_of_le hk HB3.out.size) _ HQ.out).mono ?_
  rintro e w4 ⟨v, rfl, hS, hL⟩
  obtain ⟨A, c, ev⟩ := Kd.S_slice hS
  subst ev
  have HB4 := Aside0.mk (HB3.out.trans (hL.below.mono HG.out))
  have HS4 := Aside0.mk (Kd.S_lower hS HB3.out.size)
  clear hS hL HR3 HI3 HB3 hr0
  obtain ⟨-, hc, hC⟩ := Kd.S_reads' HS4.out
  have HPT := Aside0.mk (qcode_PutDefs.calls A c m p pe w4 hC hc HFIT.out)
  clear hC hc
  go_wp2_with fail
  refine HPT.out.mono ?_
  rintro e w5 ⟨vp, rfl, hR, hb⟩
  have HS5 := Aside0.mk (Kd.S_below HS4.out hb)
  have HB5 := Aside0.mk (below_step HB4.out hb)
  obtain ⟨Ap, cp, ep⟩ := Kd.R_slice hR
  subst ep
  obtain ⟨-, hcp, hCp⟩ := Kd.R_reads' hR
  have HCP := Aside0.mk hcp
  have HRP := Aside0.mk hCp
  clear HS4 HB4 HPT hb hR hcp hCp
  cases ok with
  | false =>
    have HS2 := Aside0.mk (HST.out.trans (if_pos (.inl rfl)))
    clear HST
    go_wp2_with fail
    go_ret2
    obtain ⟨rfl, rfl⟩ := Prod.mk.inj HS2.out
    exact ⟨_, rfl, Kd.S_nil _ _ _ _ _, HB5.out⟩
  | true =>
    by_cases h0 : pe = 0
    · have hbn : (pe != 0) = false := bne_eq_false_iff_eq.mpr h0
      have H0 := Aside0.mk h0
      clear h0
      go_wp2_with fail
      refine (equal_calls Ap cp p A0 c0 l0 w5 HRP.out HCP.out (Kd.C_below HR0.out HB5.out) HC0.out HPB.out HBY.out).mono ?_
      rintro e w6 ⟨rfl, rfl⟩
      by_cases hpl : p = l0
      · have b4 : decide (p = l0) = true := decide_eq_true hpl
        have HS2 := Aside0.mk (HST.out.trans (if_neg (by rw [not_or, not_or]; exact ⟨by simp, by simpa using H0.out, by simpa using hpl⟩)))
        rw [b4]
        clear b4 hpl HST
        go_wp2_with fail
        go_ret2
        obtain ⟨rfl, rfl⟩ := Prod.mk.inj HS2.out
        exact ⟨_, rfl, HS5.out, HB5.out⟩
      · have b4 : decide (p = l0) = false := decide_eq_false hpl
        have HS2 := Aside0.mk (HST.out.trans (if_pos (.inr (.inr hpl))))
        rw [b4]
        clear b4 hpl HST
        go_wp2_with fail
        go_ret2
        obtain ⟨rfl, rfl⟩ := Prod.mk.inj HS2.out
        exact ⟨_, rfl, Kd.S_nil _ _ _ _ _, HB5.out⟩
    · have hbn : (pe != 0) = true := bne_iff_ne.mpr h0
      have HS2 := Aside0.mk (HST.out.trans (if_pos (.inr (.inl h0))))
      clear HST h0
      go_wp2_with fail
      go_ret2
      obtain ⟨rfl, rfl⟩ := Prod.mk.inj HS2.out
      exact ⟨_, rfl, Kd.S_nil _ _ _ _ _, HB5.out⟩
end Go.Proofs.Ytdpigeineephlaa.Prt
namespace Go.Proofs.Ytdpigeineephlaa.Prt
open Go.RowKit Go.Proofs.YtdpigeineephlaaW.PrintWords Go.Proofs.YtdpigeineephlaaW.PrintLast Go.Proofs.YtdpigeineephlaaW.PrintMore
attribute [local go_sem] max2_int min2_int max_two min_two max_three min_three max_four min_four   -- for this text's walks alone
set_option linter.unusedVariables false
set_option linter.unusedSimpArgs false

end Go.Proofs.Ytdpigeineephlaa.Prt
namespace Go.Proofs.Ytdpigeineephlaa.Prt
open Go.RowKit Go.Proofs.YtdpigeineephlaaW.PrintWords Go.Proofs.YtdpigeineephlaaW.PrintLast Go.Proofs.YtdpigeineephlaaW.PrintMore Go.Proofs.Ytdpigeineephlaa.Num Go.Proofs.Ytdpigeineephlaa.Nam
set_option linter.unusedVariables false
set_option linter.unusedSimpArgs false

end Go.Proofs.Ytdpigeineephlaa.Prt
namespace Go.Proofs.Ytdpigeineephlaa.Gen
open Go.RowKit Go.Proofs.YtdpigeineephlaaW.PrintWords Go.Proofs.YtdpigeineephlaaW.PrintLast Go.Proofs.YtdpigeineephlaaW.PrintMore
set_option linter.unusedVariables false
set_option linter.unusedSimpArgs false

theorem list_of {α : Type} {p : Nat → α → Prop} : ∀ n : Nat, (∀ i, i < n → ∃ x, p i x) → ∃ xs : List α, xs.length = n ∧ ∀ i x, xs[i]? = some x → p i x := by
  intro n
  induction n with
  | zero => exact fun _ => ⟨[], rfl, fun i x h => by simp at h⟩
  | succ n ih =>
    intro h
    obtain ⟨xs, h1, h2⟩ := ih (fun i hi => h i (by omega))
    obtain ⟨y, hy⟩ := h n (by omega)
    refine ⟨xs ++ [y], by simp [h1], fun i x hx => ?_⟩
    rcases Nat.lt_or_ge i xs.length with hi | hi
    · rw [List.getElem?_append_left hi] at hx; exact h2 i x hx
    · have hl := (List.getElem?_eq_some_iff.1 hx).1
      rw [List.length_append, List.length_singleton] at hl
      obtain rfl : i = xs.length := by omega
      rw [List.getElem?_append_right hi] at hx
      simp at hx
      subst hx
      rw [h1]; exact hy
/-- Whatever reads as data of type t stands as an x of kind k that is ok. -/
def Opens {α : Type} (P : Program) (t : TypeId) (k : Kd α) (ok : α → Prop) : Prop :=
  ∀ {H : Type} (enc : TypeId × Value → H) (w : World) (base : Nat) (spare : Nat → Bool) (held : Bool) (fuel : Nat) (cs : List Value) (y : DataW H × List MemPlace), DataW.trod enc P w base spare held fuel t cs = some y → ∃ x, k.K w x cs ∧ ok x
section
variable {P : Program} {t e : TypeId}
theorem opens_int {k : IntKind} (ht : P.underlying t = some (.int k)) : Opens P t (Kd.int k) (fun n => (Lit.int k n).wf = true) := by
  intro H enc w base spare held fuel cs y h
  obtain ⟨n, rfl, _, h2⟩ := DataW.trod_int ht h
  exact ⟨n, rfl, h2⟩
theorem opens_string (ht : P.underlying t = some .string) : Opens P t Kd.string (fun s => s.size ≤ maxLen) := by
  intro H enc w base spare held fuel cs y h
  obtain ⟨s, rfl, _, h2⟩ := DataW.trod_string ht h
  exact ⟨s, rfl, h2⟩
theorem opens_slice {α : Type} {k : Kd α} {ok : α → Prop} (ht : P.underlying t = some (.slice e)) (hc : P.cellsOf e = k.sz) (he : Opens P e k ok) : Opens P t (Kd.slice e k) (fun xs => ∀ x ∈ xs, ok x) := by
  intro H enc w base spare held fuel cs y h
  rcases DataW.trod_slice ht h with ⟨rfl, _⟩ | ⟨a, len, cap, elems, rest, n, _, rfl, _, hb, hl, hm, hlen, hel, _, _⟩
  · exact ⟨[], ⟨none, 0, rfl, Nat.le_refl _, Kd.C_nil _ _⟩, fun x hx => by simp at hx⟩
  · have key : ∀ i, i < len → ∃ x, (∃ c, c.length = k.sz ∧ k.K w x c ∧ ∀ j u, c[j]? = some u → w.cell? (a.add (i * k.sz + j)) = some u) ∧ ok x := by
      intro i hi
      have h1 := hel i hi
      have h2 : elems[i]? = some elems[i] := List.getElem?_eq_getElem (by omega)
      rw [h2] at h1
      obtain ⟨c, hcells, htrod⟩ := Option.bind_eq_some_iff.1 h1
      obtain ⟨x, hx, hok⟩ := he enc w base spare held n c _ htrod
      obtain ⟨_, hcl, hcc⟩ := World.cells?_some hcells
      refine ⟨x, ⟨c, by rw [hcl, hc], hx, fun j u hj => ?_⟩, hok⟩
      have hjl : j < P.cellsOf e := by rw [← hcl]; exact (List.getElem?_eq_some_iff.1 hj).1
      have h3 := hcc j hjl
      rw [hj, hc] at h3
      rw [← h3]
      congr 1
      exact (Go.Deep.add_add a (i * k.sz) j).symm
    obtain ⟨xs, hxl, hx⟩ := list_of len key
    refine ⟨xs, ⟨some a, cap, by rw [hxl], by rw [hxl]; exact hl, hxl ▸ rfl, by rw [hxl]; simp only [maxLen] at hm; omega, fun _ => ⟨a, rfl, fun j p hp => (hx j p hp).1⟩⟩, fun x hxm => ?_⟩
    obtain ⟨j, hj⟩ := List.mem_iff_getElem?.1 hxm
    exact (hx j x hj).2
end
end Go.Proofs.Ytdpigeineephlaa.Gen
namespace Go.Proofs.Ytdpigeineephlaa.Gen
open Go.RowKit Go.Proofs.YtdpigeineephlaaW.PrintWords Go.Proofs.YtdpigeineephlaaW.PrintLast Go.Proofs.YtdpigeineephlaaW.PrintMore Go.Proofs.Ytdpigeineephlaa.Prt
set_option linter.unusedVariables false
set_option linter.unusedSimpArgs false
theorem opens_str : Opens Try.prog 9 Kd.string (fun s => s.size ≤ maxLen) := opens_string Try.underlying9
theorem opens_i64 : Opens Try.prog 3 (Kd.int .i64) (fun n => (Lit.int .i64 n).wf = true) := opens_int Try.underlying3
theorem opens_strs : Opens Try.prog 58 (Kd.slice 9 Kd.string) (fun xs => ∀ x ∈ xs, x.size ≤ maxLen) := opens_slice Try.underlying58 (by kernel_rfl) opens_str
end Go.Proofs.Ytdpigeineephlaa.Gen
namespace Go.Proofs.Ytdpigeineephlaa.Gen
open Go.RowKit Go.Proofs.YtdpigeineephlaaW.PrintWords Go.Proofs.YtdpigeineephlaaW.PrintLast Go.Proofs.YtdpigeineephlaaW.PrintMore Go.Proofs.Ytdpigeineephlaa.Prt
set_option linter.unusedVariables false
set_option linter.unusedSimpArgs false
/-- Clauses that came in. -/
def OkInQ (l : List S60) : Prop := ∀ x ∈ l, (∀ s ∈ x.f0, s.size ≤ maxLen) ∧ (∀ s ∈ x.f1, s.size ≤ maxLen)
theorem opens_clause : Opens Try.prog 60 k60 (fun x => (∀ z ∈ x.f0, z.size ≤ maxLen) ∧ (∀ z ∈ x.f1, z.size ≤ maxLen)) := by
  intro H enc w base spare held fuel cs y h
  obtain ⟨xs, n, _, _, hl, hlen, hf⟩ := DataW.trod_struct Try.underlying60 h
  rw [show Try.prog.cellsOf 60 = 2 from by kernel_rfl] at hl
  have hlen' : xs.length = 2 := hlen
  have h0 := hf 0 _ rfl
  rw [List.getElem?_eq_getElem (l := xs) (i := 0) (by omega)] at h0
  replace h0 : DataW.trod enc Try.prog w base spare held n 58 ((cs.drop 0).take (Try.prog.cellsOf 58)) = some xs[0] := h0
  rw [show Try.prog.cellsOf 58 = 1 from by kernel_rfl] at h0
  obtain ⟨x0, K0, o0⟩ := opens_strs enc w base spare held n _ _ h0
  have h1 := hf 1 _ rfl
  rw [List.getElem?_eq_getElem (l := xs) (i := 1) (by omega)] at h1
  replace h1 : DataW.trod enc Try.prog w base spare held n 58 ((cs.drop 1).take (Try.prog.cellsOf 58)) = some xs[1] := h1
  rw [show Try.prog.cellsOf 58 = 1 from by kernel_rfl] at h1
  obtain ⟨x1, K1, o1⟩ := opens_strs enc w base spare held n _ _ h1
  have e : cs = (cs.drop 0).take 1 ++ ((cs.drop 1).take 1) := by
    have g0 : cs.drop 0 = (cs.drop 0).take 1 ++ cs.drop 1 := by rw [show cs.drop 1 = (cs.drop 0).drop 1 from by rw [List.drop_drop], List.take_append_drop]
    have g1 : cs.drop 1 = (cs.drop 1).take 1 ++ cs.drop 2 := by rw [show cs.drop 2 = (cs.drop 1).drop 1 from by rw [List.drop_drop], List.take_append_drop]
    have z : cs.drop 2 = [] := List.drop_eq_nil_of_le (by omega)
    rw [z, List.append_nil] at g1
    calc cs = cs.drop 0 := rfl
      _ = (cs.drop 0).take 1 ++ ((cs.drop 1).take 1) := by rw [← g1]; exact g0
  refine ⟨⟨x0, x1⟩, ?_, o0, o1⟩
  rw [e]
  exact ⟨_, _, rfl, K0, K1⟩
theorem opens_clauses : Opens Try.prog 23 (Kd.slice 60 k60) (fun l => OkInQ l) := opens_slice Try.underlying23 (by kernel_rfl) opens_clause
theorem opens_query : Opens Try.prog 25 k25 (fun x => OkInQ x.f0) := by
  intro H enc w base spare held fuel cs y h
  obtain ⟨xs, n, _, _, hl, hlen, hf⟩ := DataW.trod_struct Try.underlying25 h
  rw [show Try.prog.cellsOf 25 = 1 from by kernel_rfl] at hl
  have hlen' : xs.length = 1 := hlen
  have h0 := hf 0 _ rfl
  rw [List.getElem?_eq_getElem (l := xs) (i := 0) (by omega)] at h0
  replace h0 : DataW.trod enc Try.prog w base spare held n 23 ((cs.drop 0).take (Try.prog.cellsOf 23)) = some xs[0] := h0
  rw [show Try.prog.cellsOf 23 = 1 from by kernel_rfl] at h0
  obtain ⟨x0, K0, o0⟩ := opens_clauses enc w base spare held n _ _ h0
  have e : cs = (cs.drop 0).take 1 := by
    have g0 : cs.drop 0 = (cs.drop 0).take 1 ++ cs.drop 1 := by rw [show cs.drop 1 = (cs.drop 0).drop 1 from by rw [List.drop_drop], List.take_append_drop]
    have z : cs.drop 1 = [] := List.drop_eq_nil_of_le (by omega)
    rw [z, List.append_nil] at g0
    calc cs = cs.drop 0 := rfl
      _ = (cs.drop 0).take 1 := g0
  refine ⟨⟨x0⟩, ?_, o0⟩
  rw [e]
  exact K0
/-- Projections that came in. -/
def OkInD (l : List S36) : Prop := ∀ x ∈ l, (Lit.int .i64 x.f0).wf = true ∧ x.f1.size ≤ maxLen ∧ OkInQ x.f2.f0
theorem opens_def : Opens Try.prog 36 k36 (fun x => (Lit.int .i64 x.f0).wf = true ∧ x.f1.size ≤ maxLen ∧ OkInQ x.f2.f0) := by
  intro H enc w base spare held fuel cs y h
  obtain ⟨xs, n, _, _, hl, hlen, hf⟩ := DataW.trod_struct Try.underlying36 h
  rw [show Try.prog.cellsOf 36 = 3 from by kernel_rfl] at hl
  have hlen' : xs.length = 3 := hlen
  have h0 := hf 0 _ rfl
  rw [List.getElem?_eq_getElem (l := xs) (i := 0) (by omega)] at h0
  replace h0 : DataW.trod enc Try.prog w base spare held n 3 ((cs.drop 0).take (Try.prog.cellsOf 3)) = some xs[0] := h0
  rw [show Try.prog.cellsOf 3 = 1 from by kernel_rfl] at h0
  obtain ⟨x0, K0, o0⟩ := opens_i64 enc w base spare held n _ _ h0
  have h1 := hf 1 _ rfl
  rw [List.getElem?_eq_getElem (l := xs) (i := 1) (by omega)] at h1
  replace h1 : DataW.trod enc Try.prog w base spare held n 9 ((cs.drop 1).take (Try.prog.cellsOf 9)) = some xs[1] := h1
  rw [show Try.prog.cellsOf 9 = 1 from by kernel_rfl] at h1
  obtain ⟨x1, K1, o1⟩ := opens_str enc w base spare held n _ _ h1
  have h2 := hf 2 _ rfl
  rw [List.getElem?_eq_getElem (l := xs) (i := 2) (by omega)] at h2
  replace h2 : DataW.trod enc Try.prog w base spare held n 25 ((cs.drop 2).take (Try.prog.cellsOf 25)) = some xs[2] := h2
  rw [show Try.prog.cellsOf 25 = 1 from by kernel_rfl] at h2
  obtain ⟨x2, K2, o2⟩ := opens_query enc w base spare held n _ _ h2
  have e : cs = (cs.drop 0).take 1 ++ ((cs.drop 1).take 1 ++ ((cs.drop 2).take 1)) := by
    have g0 : cs.drop 0 = (cs.drop 0).take 1 ++ cs.drop 1 := by rw [show cs.drop 1 = (cs.drop 0).drop 1 from by rw [List.drop_drop], List.take_append_drop]
    have g1 : cs.drop 1 = (cs.drop 1).take 1 ++ cs.drop 2 := by rw [show cs.drop 2 = (cs.drop 1).drop 1 from by rw [List.drop_drop], List.take_append_drop]
    have g2 : cs.drop 2 = (cs.drop 2).take 1 ++ cs.drop 3 := by rw [show cs.drop 3 = (cs.drop 2).drop 1 from by rw [List.drop_drop], List.take_append_drop]
    have z : cs.drop 3 = [] := List.drop_eq_nil_of_le (by omega)
    rw [z, List.append_nil] at g2
    calc cs = cs.drop 0 := rfl
      _ = (cs.drop 0).take 1 ++ ((cs.drop 1).take 1 ++ ((cs.drop 2).take 1)) := by rw [← g2, ← g1]; exact g0
  refine ⟨⟨x0, x1, x2⟩, ?_, o0, o1, o2⟩
  rw [e]
  exact ⟨_, _, rfl, K0, ⟨_, _, rfl, K1, K2⟩⟩
theorem opens_defs : Opens Try.prog 26 (Kd.slice 36 k36) (fun l => OkInD l) := opens_slice Try.underlying26 (by kernel_rfl) opens_def
end Go.Proofs.Ytdpigeineephlaa.Gen
namespace Go.Proofs.Ytdpigeineephlaa.Prt
open Go.RowKit Go.Proofs.YtdpigeineephlaaW.PrintWords Go.Proofs.YtdpigeineephlaaW.PrintLast Go.Proofs.YtdpigeineephlaaW.PrintMore Go.Proofs.Ytdpigeineephlaa.Num Go.Proofs.Ytdpigeineephlaa.Nam
set_option linter.unusedVariables false
set_option linter.unusedSimpArgs false

theorem few_C (A : Option Addr) (c : Nat) (l : List S60) (w : World) (hC : Kd.C k60 w A l.length l) (hc : l.length ≤ c) :
    Calls Try.prog 11 #[.agg #[.slice A l.length c]] w fun e w' => ∃ A' c', e = .returned (.agg #[.slice A' (fewQ l).length c']) ∧ (fewQ l).length ≤ c' ∧ Kd.C k60 w' A' (fewQ l).length (fewQ l) ∧ Below w.heap.size w w' :=
  (registrarlaw07_few.calls 100 (fun k => k < w.heap.size) A c l (fewQ l) w (Kd.V_mk hc (Kd.C_F k60_heap hC)) (few07 (by omega) l)).mono (by
    rintro e w' ⟨v, rfl, hN, hb⟩
    obtain ⟨A', c', rfl, h1, h2⟩ := Kd.N_reads hN
    exact ⟨A', c', rfl, h1, h2, hb⟩)
theorem some_C (A : Option Addr) (c : Nat) (l : List S36) (w : World) (hC : Kd.C k36 w A l.length l) (hc : l.length ≤ c) :
    Calls Try.prog 14 #[.slice A l.length c] w fun e w' => ∃ A' c', e = .returned (.slice A' (someD l).length c') ∧ (someD l).length ≤ c' ∧ Kd.C k36 w' A' (someD l).length (someD l) ∧ Below w.heap.size w w' :=
  (registrarlaw07_some.calls 100 (fun k => k < w.heap.size) A c l (someD l) w (Kd.V_mk hc (Kd.C_F k36_heap hC)) (some07 (by omega) l)).mono (by
    rintro e w' ⟨v, rfl, hN, hb⟩
    obtain ⟨A', c', rfl, h1, h2⟩ := Kd.N_reads hN
    exact ⟨A', c', rfl, h1, h2, hb⟩)
def putQ (q : List S60) : List Int × Int := if mayQ q = 0 then (encQ q, 0) else ([], mayQ q)
theorem putQ_ok {q : List S60} (h : (putQ q).2 = 0) : OkQ q ∧ putQ q = (encQ q, 0) := by
  unfold putQ at h ⊢
  by_cases h0 : mayQ q = 0
  · rw [if_pos h0]; exact ⟨mayQ_zero.1 h0, rfl⟩
  · rw [if_neg h0] at h; exact absurd h h0
theorem put_C (A : Option Addr) (c : Nat) (q : List S60) (w : World) (hC : Kd.C k60 w A q.length q) (hc : q.length ≤ c) (hf : q.all fitC = true) (p : List Int) (pe : Int) (hp : putQ q = (p, pe)) :
    Calls Try.prog 10 #[.slice none 0 0, .agg #[.slice A q.length c]] w fun e w' => ∃ A' c', e = .returned (.tuple #[.slice A' p.length c', .int .i64 pe]) ∧ p.length ≤ c' ∧ Kd.C (Kd.int .u8) w' A' p.length p ∧ Below w.heap.size w w' :=
  (qcode_Put.calls none 0 [] A c q p pe w (Kd.C_nil _ _) (Nat.le_refl _) hC hc (by rw [qput_ok (by simp) hf, ← hp]; rfl)).mono (by
    rintro e w' ⟨v, rfl, hN, hb⟩
    obtain ⟨A', c', rfl, h1, h2⟩ := Kd.R_reads hN
    exact ⟨A', c', rfl, h1, h2, hb⟩)
theorem putDs_C (A : Option Addr) (c : Nat) (q : List S36) (w : World) (hC : Kd.C k36 w A q.length q) (hc : q.length ≤ c) (hf : q.all fitD = true) (p : List Int) (pe : Int) (hp : putDs q = (p, pe)) :
    Calls Try.prog 13 #[.slice A q.length c] w fun e w' => ∃ A' c', e = .returned (.tuple #[.slice A' p.length c', .int .i64 pe]) ∧ p.length ≤ c' ∧ Kd.C (Kd.int .u8) w' A' p.length p ∧ Below w.heap.size w w' :=
  (qcode_PutDefs.calls A c q p pe w hC hc (by rw [← hp]; exact if_pos hf)).mono (by
    rintro e w' ⟨v, rfl, hN, hb⟩
    obtain ⟨A', c', rfl, h1, h2⟩ := Kd.R_reads hN
    exact ⟨A', c', rfl, h1, h2, hb⟩)
theorem takeDs_C (A : Option Addr) (c : Nat) (l : List Int) (w : World) (hC : Kd.C (Kd.int .u8) w A l.length l) (hc : l.length ≤ c) (hb : isBytes l) (m : List S36) (e2 : Int) (h : takeDs l = (m, e2)) :
    Calls Try.prog 23 #[.slice A l.length c] w fun e w' => ∃ A' c', e = .returned (.tuple #[.slice A' m.length c', .int .i64 e2]) ∧ m.length ≤ c' ∧ Kd.C k36 w' A' m.length m ∧ Below w.heap.size w w' :=
  (takeDs_calls A c l w hC hc hb m e2 h).mono (by
    rintro e w' ⟨v, rfl, hN, hb⟩
    obtain ⟨A', c', rfl, h1, h2⟩ := Kd.S_reads hN
    exact ⟨A', c', rfl, h1, h2, hb⟩)
end Go.Proofs.Ytdpigeineephlaa.Prt
namespace Go.Proofs.Ytdpigeineephlaa.Prt
open Go.RowKit Go.Proofs.YtdpigeineephlaaW.PrintWords Go.Proofs.YtdpigeineephlaaW.PrintLast Go.Proofs.YtdpigeineephlaaW.PrintMore Go.Proofs.Ytdpigeineephlaa.Num Go.Proofs.Ytdpigeineephlaa.Nam Go.Proofs.Ytdpigeineephlaa.Gen
set_option linter.unusedVariables false
set_option linter.unusedSimpArgs false

theorem isBytes_wf2 {l : List Int} (h : ∀ n ∈ l, (Lit.int .u8 n).wf = true) : isBytes l := by
  intro c hc
  have h1 := h c hc
  simp [Lit.wf, IntKind.min, IntKind.max, IntKind.bits, IntKind.signed] at h1
  omega
theorem fitsQQcodeMore {l : List S60} (h : OkInQ l) : FitsQ l := fun x hx => h x hx
theorem fitsDQcodeMore {l : List S36} (h : OkInD l) : FitsD l := fun x hx => ⟨(h x hx).2.1, fitsQQcodeMore (h x hx).2.2⟩
theorem encDs_pos (l : List S36) : 1 ≤ (encDs l).length := by
  unfold encDs
  have := enc_pos (l.length : Int)
  rw [List.length_append]; omega
theorem takeDs_cut {m : List S36} (h4 : m.length ≤ 4) (h : ∀ x ∈ m, OkD x) : takeDs ((encDs m).take ((encDs m).length - 1)) = ([], 2) :=
  takeDs_no fun m' g4 g he => by
    have e : encDs m ++ [] = encDs m' ++ (encDs m).drop ((encDs m).length - 1) := by rw [← he, List.append_nil, List.take_append_drop]
    have h2 := (encDs_part h4 g4 h g e).2
    have h3 := congrArg List.length h2
    rw [List.length_drop, List.length_nil] at h3
    have := encDs_pos m
    omega
theorem takeDs_more {m : List S36} (h4 : m.length ≤ 4) (h : ∀ x ∈ m, OkD x) : takeDs (encDs m ++ [0]) = ([], 2) :=
  takeDs_no fun m' g4 g he => by
    have h2 := (encDs_part (r := [0]) (r' := []) h4 g4 h g (by rw [he, List.append_nil])).2
    cases h2
set_option maxHeartbeats 4000000 in
set_option maxRecDepth 100000 in
theorem qcodeMore_walk (A0 : Option Addr) (c0 : Nat) (q : List S60) (A1 : Option Addr) (len1 cap1 : Nat) (z1 : List Int) (A2 : Option Addr) (c2 : Nat) (l : List S36) (w : World) (hC0 : Kd.C k60 w A0 q.length q) (hc0 : q.length ≤ c0) (hfq : FitsQ q) (w1 : (A1 = none ∧ len1 = 0 ∧ cap1 = 0 ∧ z1 = []) ∨ ∃ x, A1 = some x ∧ len1 ≤ cap1 ∧ cap1 ≤ maxLen ∧ z1.length = cap1 ∧ (∀ i, i < z1.length → w.cell? (x.add i) = some (.int .u8 (z1.getD i 0))) ∧ ∀ n ∈ z1, (Lit.int .u8 n).wf = true) (y1 : len1 * 1 ≤ 140737488351232) (hC2 : Kd.C k36 w A2 l.length l) (hc2 : l.length ≤ c2) (hfd : FitsD l) :
    Calls Try.prog 8 #[.agg #[.slice A0 q.length c0], .slice A1 len1 cap1, .slice A2 l.length c2] w fun e w' => e = .returned (.bool true) ∧ Below w.heap.size w w' := by
  obtain ⟨l1, rfl, hr, hm1, hw, hc1⟩ := ReadsInt.ofRowC w1
  have hC := Kd.C_of_reads (d := (0 : Int)) (h1 := fun _ => rfl) hr
  have HR1 := Aside0.mk hC
  have HBY1 := Aside0.mk (isBytes_wf2 hw)
  clear w1 hr hw hC
  clear y1
  obtain ⟨⟨p, pe⟩, hpp⟩ : ∃ z, putQ (fewQ q) = z := ⟨_, rfl⟩
  obtain ⟨⟨d, de⟩, hdd⟩ : ∃ z, putDs (someD l) = z := ⟨_, rfl⟩
  have HPP := Aside0.mk hpp
  have HDD := Aside0.mk hdd
  have HC0 := Aside0.mk hC0
  have HC2 := Aside0.mk hC2
  have HFQ := Aside0.mk (fewQ_fit hfq)
  have HFD := Aside0.mk (someD_fit hfd)
  clear hC0 hC2 hfq hfd hpp hdd
  have hu25 := Try.underlying25
  go_enter Try.func8, Try.ntmps8
  go_upto_if 22 with (first | ((with_reducible refine gate_dst (N := 3) rfl ?_); (try (refine gate_guard (by rfl) ?_; dsimp only)); refine box_event ?hg (N := 3) ?hd (cs := #[.slice A0 q.length c0]) (t := 25) ?hr ?_; (case hd => rfl); (case hg => rfl); (case hr => first | (go_simp; done) | (go_simp; rfl)); intro Q hg_ w1 hbox_ hb_; have HQ := Aside0.mk hbox_; have HQN := Aside0.mk hg_; have HQB := Aside0.mk hb_; clear hbox_ hg_ hb_) | (go_at_call 9; refine (registrarlaw07_shown.calls true _ shown07).mono ?_; rintro e w2 ⟨rfl, hb⟩; have HQ2 := Aside0.mk (blk_below HQ.out hb); have HB2 := Aside0.mk (below_step HQB.out hb); clear HQ HQB HQN hb))
  obtain ⟨n1, hn⟩ : ∃ n, n = min 50 l1.length := ⟨_, rfl⟩
  have hna1 : n1 ≤ 50 := by omega
  have hnb1 : n1 ≤ l1.length := by omega
  go_cut [1] (fun vc wc => vc = .slice A1 n1 cap1 ∧ w2 = wc)
  case first =>
    by_cases hb_ : 50 < l1.length
    · have e : n1 = 50 := by omega
      subst e
      clear hn
      go_wp2
      go_meet
      case rel => exact ⟨rfl, rfl⟩
    · have e : n1 = l1.length := by omega
      subst e
      clear hn
      go_wp2
      go_meet
      case rel => exact ⟨rfl, rfl⟩
  case rest =>
  obtain ⟨rfl, rfl⟩ := hcut
  have hcap1 : n1 ≤ cap1 := by omega
  obtain ⟨lb, hlb⟩ : ∃ lb, lb = l1.take n1 := ⟨_, rfl⟩
  have hlen : lb.length = n1 := by rw [hlb, List.length_take]; omega
  have HLB1 := Aside0.mk (show (Kd.int .u8).C w A1 lb.length lb by rw [hlen, hlb]; exact take_C HR1.out hnb1)
  have HBZ1 := Aside0.mk (show isBytes lb by rw [hlb]; exact isBytes_take HBY1.out n1)
  clear hlb hn HR1 HBY1
  subst hlen
  have hq0 := blk_cell HQ2.out 0
  have HFW := Aside0.mk (few_C A0 c0 q w2 (Kd.C_below HC0.out HB2.out) hc0)
  go_wp2_with fail
  refine HFW.out.mono ?_
  rintro e w3 ⟨Af, cf, rfl, hf1, hf2, hb⟩
  have HPT := Aside0.mk (put_C Af cf (fewQ q) w3 hf2 hf1 HFQ.out p pe HPP.out)
  have HB3 := Aside0.mk (below_step HB2.out hb)
  clear HQ2 HB2 HFW hf1 hf2 hb hq0
  go_wp2_with fail
  refine HPT.out.mono ?_
  rintro e w4 ⟨Ap, cp, rfl, hp1, hp2, hb⟩
  have HP1 := Aside0.mk hp1
  have HP2 := Aside0.mk hp2
  have HB := Aside0.mk (below_step HB3.out hb)
  clear HB3 HPT hp1 hp2 hb
  by_cases hpe : pe = 0
  · have hpn : (pe == 0) = true := beq_iff_eq.mpr hpe
    have HOK := Aside0.mk (putQ_ok (q := fewQ q) (by rw [HPP.out]; exact hpe))
    have HPE : Aside0 (p = encQ (fewQ q)) := ⟨by have h := HOK.out.2; rw [HPP.out] at h; exact (Prod.mk.inj h).1⟩
    have HTQ : Aside0 (takeQ (p ++ lb) false = (fewQ q, 0, lb, false)) := ⟨by rw [HPE.out]; exact takeQ_enc HOK.out.1 lb⟩
    have HBY : Aside0 (isBytes (p ++ lb)) := ⟨isBytes_append.2 ⟨by rw [HPE.out]; exact encQ_bytes _, HBZ1.out⟩⟩
    have hplen : p.length ≤ 2000 := by rw [HPE.out]; exact encQ_size HOK.out.1
    have HLB4 := Aside0.mk (Kd.C_below HLB1.out HB.out)
    have HL := Aside0.mk (Below.refl w4.heap.size w4)
    clear hpe
    go_wp2_with (first
      | ((with_reducible refine gate_dst (N := 33) rfl ?_); refine Kd.R_lit (Kd.int .u8) (w0 := w4) w4.heap.size 5 ?hg (N := 33) ?hd (xs := []) (inner := []) (ok := fun _ => True) (okp := fun _ => True) ?hr ?hp (fun _ hk => hk) trivial ?hB ?hS (by simp) ?_; (case hd => rfl); (case hg => rfl); (case hr => first | (go_simp; done) | (go_simp; rfl)); (case hp => exact (Reps.none _ _)); (case hB => exact (by repeat (first | (with_reducible first | exact HL.out | apply below_alloc | apply pw_below_drewN | apply below_drew1) | exact HL.out))); (case hS => exact (below_size (by repeat (first | (with_reducible first | exact HL.out | apply below_alloc | apply pw_below_drewN | apply below_drew1) | exact HL.out)))); intro v5 w5 ho hb hg hat; have n0_ := Aside0.mk (hb); have n1_ := Aside0.mk (ho); clear HL; have HL := n0_; have HO5 := n1_; clear n0_ n1_; clear ho hb hg hat)
      | ((with_reducible refine gate_builtin (b := .append) (xs := #[.tmp 33, .tmp 34]) rfl ?_); at_builtin; refine Kd.R_append_rows (Kd.int .u8) (w0 := w4) w4.heap.size rfl (.tmp 33) (.tmp 34) 22 5 (.int .u8 0) 1 rfl Try.underlying22 info_u8 rfl (by decide) (by omega) v5 [] p _ _ _ (fun _ => True) (fun _ => False) rfl rfl ?aO ?aR (fun _ _ h => h) (fun _ h => h.elim) ?aF ?aB ?aS ?aL ?_; (case aR => exact (by repeat (first | exact (Kd.C_below HP2.out HL.out) | (with_reducible refine Kd.C_alloc ?_ _) | (with_reducible refine Kd.C_drewN ?_ _) | (with_reducible refine Kd.C_drew ?_)))); (case aB => exact (by repeat (first | (with_reducible first | exact HL.out | apply below_alloc | apply pw_below_drewN | apply below_drew1) | exact HL.out))); (case aF => exact (fun _ _ => trivial)); (case aO => exact (by (with_reducible repeat (first | apply Kd.R_alloc | apply Kd.R_drewN | apply Kd.R_drew)); exact HO5.out)); (case aS => exact (below_size (by repeat (first | (with_reducible first | exact HL.out | apply below_alloc | apply pw_below_drewN | apply below_drew1) | exact HL.out)))); (case aL => simp only [List.length_nil]; omega); intro v6 w6 ho hb hg hat; have n0_ := Aside0.mk (hb); have n1_ := Aside0.mk (ho); clear HL; clear HO5; have HL := n0_; have HO6 := n1_; clear n0_ n1_; clear ho hb hg hat)
      | ((with_reducible refine gate_builtin (b := .append) (xs := #[.tmp 35, .tmp 36]) rfl ?_); at_builtin; refine Kd.R_append_rows (Kd.int .u8) (w0 := w4) w4.heap.size rfl (.tmp 35) (.tmp 36) 22 5 (.int .u8 0) 1 rfl Try.underlying22 info_u8 rfl (by decide) (by omega) v6 ([] ++ p) lb _ _ _ (fun _ => True) (fun _ => False) rfl rfl ?aO ?aR (fun _ _ h => h) (fun _ h => h.elim) ?aF ?aB ?aS ?aL ?_; (case aR => exact (by repeat (first | exact (Kd.C_below HLB4.out HL.out) | (with_reducible refine Kd.C_alloc ?_ _) | (with_reducible refine Kd.C_drewN ?_ _) | (with_reducible refine Kd.C_drew ?_)))); (case aB => exact (by repeat (first | (with_reducible first | exact HL.out | apply below_alloc | apply pw_below_drewN | apply below_drew1) | exact HL.out))); (case aF => exact (fun _ _ => trivial)); (case aO => exact (by (with_reducible repeat (first | apply Kd.R_alloc | apply Kd.R_drewN | apply Kd.R_drew)); exact HO6.out)); (case aS => exact (below_size (by repeat (first | (with_reducible first | exact HL.out | apply below_alloc | apply pw_below_drewN | apply below_drew1) | exact HL.out)))); (case aL => simp only [List.length_nil, List.nil_append]; omega); intro v7 w7 ho hb hg hat; have n0_ := Aside0.mk (hb); have n1_ := Aside0.mk (ho); clear HL; clear HO6; have HL := n0_; have HO7 := n1_; clear n0_ n1_; clear ho hb hg hat))
    obtain ⟨A7, c7, e7, hc7, hC7⟩ := Kd.R_reads HO7.out
    subst e7
    rw [List.nil_append] at hc7 hC7 ⊢
    refine (newReader_calls A7 c7 (p ++ lb) _ hC7 hc7).mono ?_
    rintro e w8 ⟨g, rfl, hI, hb, hg⟩
    have HI8 := Aside0.mk hI
    have HB8 := Aside0.mk (below_then HB.out HB.out.size (below_step ((by repeat (first | (with_reducible first | exact HL.out | apply below_alloc | apply pw_below_drewN | apply below_drew1) | exact HL.out)) : Below w4.heap.size w4 _) hb))
    have HGG := Aside0.mk (show w.heap.size ≤ g by have h1 := HB.out.size; have h2 := ((by repeat (first | (with_reducible first | exact HL.out | apply below_alloc | apply pw_below_drewN | apply below_drew1) | exact HL.out)) : Below w4.heap.size w4 _).size; exact Nat.le_trans h1 (Nat.le_trans h2 hg))
    have HTK := Aside0.mk (takeQ_calls _ w8 g (p ++ lb) false HI8.out HBY.out (fun k hk => Nat.lt_of_lt_of_le hk hb.size) _ HTQ.out)
    have HW7 := Aside0.mk (show w7.heap.size ≤ g from hg)
    clear HB HL HO7 hI hb hg hc7 hC7 HLB4 HP2
    go_wp2_with fail
    refine HTK.out.mono ?_
    rintro e w9 ⟨v, rfl, hS, hL⟩
    obtain ⟨A8, c8, ev⟩ := Kd.S_slice hS
    subst ev
    have HB9 := Aside0.mk (HB8.out.trans (hL.below.mono HGG.out))
    have HI9 := Aside0.mk hL.rd
    clear HTK HB8 HI8 hS hL
    go_upto_region 10 with (first | ((with_reducible refine gate_dst (N := 11) rfl ?_); (try (refine gate_guard (by rfl) ?_; dsimp only)); refine box_event ?hg (N := 11) ?hd (cs := #[.slice none 0 0]) (t := 25) ?hr ?_; (case hd => rfl); (case hg => rfl); (case hr => first | (go_simp; done) | (go_simp; rfl)); intro E hg_ wa hbox_ hb_; have HE := Aside0.mk hbox_; have HEN := Aside0.mk hg_; have HEB := Aside0.mk hb_; clear hbox_ hg_ hb_; have he0 := blk_cell HE.out 0; have hf0 := blk_frozen HE.out 0))
    have HEW := Aside0.mk (show w.heap.size ≤ E ∧ g ≠ E ∧ ¬ E < w7.heap.size by
      have h1 := HEN.out
      have h3 := HB9.out.size
      have h4 := HI9.out.lt
      have h5 := HW7.out
      omega)
    have HIb := Aside0.mk ((HI9.out.below HEB.out).kept ((KeepBut.refl _ E none).set_ 0 (.slice A8 (fewQ q).length c8)) HEW.out.2.1 HEW.out.2.2)
    have HBb := Aside0.mk ((below_step HB9.out HEB.out).setCell (p := ⟨E, 0, none⟩) HEW.out.1 (.slice A8 (fewQ q).length c8))
    clear HB9 HI9 HE HEN HEB he0 hf0
    generalize wa.setCell ⟨E, 0, none⟩ (.slice A8 (fewQ q).length c8) = wb at HIb HBb ⊢
    have HLF := Aside0.mk (left_calls _ wb g lb false HIb.out)
    have HB := HBb
    clear HBb
    have hnn : ((lb.length : Int) != (lb.length : Int)) = false := by simp
    go_wp2_with fail
    refine HLF.out.mono ?_
    rintro e wc ⟨rfl, rfl⟩
    have HSM := Aside0.mk (some_C A2 c2 l wb (Kd.C_below HC2.out HB.out) hc2)
    go_wp2_with fail
    refine HSM.out.mono ?_
    rintro e x1 ⟨As, cs, rfl, hs1, hs2, hb⟩
    have HP1 := Aside0.mk (putDs_C As cs (someD l) x1 hs2 hs1 HFD.out d de HDD.out)
    have HX1 := Aside0.mk (below_step HB.out hb)
    clear HSM HB hs1 hs2 hb
    go_wp2_with fail
    refine HP1.out.mono ?_
    rintro e x2 ⟨Ad, cd, rfl, hd1, hd2, hb⟩
    have HX2 := Aside0.mk (below_step HX1.out hb)
    have HD1 := Aside0.mk hd1
    have HD2 := Aside0.mk hd2
    clear HP1 HX1 hb hd1 hd2
    by_cases hde : de = 0
    · have hdn : (de != 0) = false := bne_eq_false_iff_eq.mpr hde
      have HOK := Aside0.mk (putDs_ok (l := someD l) (by rw [HDD.out]; exact hde))
      have HDE : Aside0 (d = encDs (someD l)) := ⟨by
        have h := HOK.out.2.2
        rw [HDD.out] at h
        exact (Prod.mk.inj h).1⟩
      have HDB : Aside0 (isBytes d) := ⟨by rw [HDE.out]; exact encDs_bytes _⟩
      have hdpos : 1 ≤ d.length := by rw [HDE.out]; exact encDs_pos _
      have hdlen : d.length ≤ 9000 := by rw [HDE.out]; exact encDs_size HOK.out.1 HOK.out.2.1
      have HT1 : Aside0 (takeDs (d.take (d.length - 1)) = ([], 2)) := ⟨by rw [HDE.out]; exact takeDs_cut HOK.out.1 HOK.out.2.1⟩
      have HT2 : Aside0 (takeDs (d ++ [0]) = ([], 2)) := ⟨by rw [HDE.out]; exact takeDs_more HOK.out.1 HOK.out.2.1⟩
      have hdz : decide ((d.length : Int) = 0) = false := decide_eq_false (by omega)
      have hdz2 : ((d.length : Int) == 0) = false := beq_eq_false_iff_ne.mpr (by omega)
      clear hde
      obtain ⟨d', hd'⟩ : ∃ d', d' = d.take (d.length - 1) := ⟨_, rfl⟩
      have hlen' : d'.length = d.length - 1 := by rw [hd', List.length_take]; omega
      have hleni : (d'.length : Int) = (d.length : Int) - 1 := by omega
      rw [← hd'] at HT1
      have HDC := Aside0.mk (show Kd.C (Kd.int .u8) x2 Ad d'.length d' by rw [hlen', hd']; exact take_C HD2.out (by omega))
      have HDB1 : Aside0 (isBytes d') := ⟨by rw [hd']; exact isBytes_take HDB.out _⟩
      have hdc : d'.length ≤ cd := by have := HD1.out; omega
      obtain ⟨i0, hi0⟩ : ∃ i0, Try.prog.info? 5 = some i0 ∧ i0.size = 1 := by obtain ⟨i0, h1, h2⟩ := Option.map_eq_some_iff.1 size_u8; exact ⟨i0, h1, h2⟩
      have hcut := cut_to (P := Try.prog) 22 5 .i64 Try.underlying22 hi0.1 Ad d.length cd ((d.length : Int) - 1) (by omega) (by omega) HD1.out
      rw [show ((d.length : Int) - 1).toNat = d'.length by omega] at hcut
      have HTC := Aside0.mk (takeDs_C Ad cd d' x2 HDC.out hdc HDB1.out _ _ HT1.out)
      have HLEN := Aside0.mk hlen'
      have HD' := Aside0.mk hd'
      have HLENI := Aside0.mk hleni
      clear hlen' hd' hleni hdc hi0 HDC
      go_wp2_with fail
      refine HTC.out.mono ?_
      rintro e x3 ⟨At, ct, rfl, ht1, ht2, hb⟩
      have HX3 := Aside0.mk (below_step HX2.out hb)
      have HD3 := Aside0.mk (Kd.C_below HD2.out hb)
      have HL3 := Aside0.mk (Below.refl x3.heap.size x3)
      clear HTC HX2 ht1 ht2 hb hcut
      go_wp2_with (first
        | ((with_reducible refine gate_dst (N := 83) rfl ?_); refine Kd.R_lit (Kd.int .u8) (w0 := x3) x3.heap.size 5 ?hg (N := 83) ?hd (xs := []) (inner := []) (ok := fun _ => True) (okp := fun _ => True) ?hr ?hp (fun _ hk => hk) trivial ?hB ?hS (by simp) ?_; (case hd => rfl); (case hg => rfl); (case hr => first | (go_simp; done) | (go_simp; rfl)); (case hp => exact (Reps.none _ _)); (case hB => exact (by repeat (first | (with_reducible first | exact HL3.out | apply below_alloc | apply pw_below_drewN | apply below_drew1) | exact HL3.out))); (case hS => exact (below_size (by repeat (first | (with_reducible first | exact HL3.out | apply below_alloc | apply pw_below_drewN | apply below_drew1) | exact HL3.out)))); intro v5 w5 ho hb hg hat; have n0_ := Aside0.mk (hb); have n1_ := Aside0.mk (ho); clear HL3; have HL3 := n0_; have HO5 := n1_; clear n0_ n1_; clear ho hb hg hat)
        | ((with_reducible refine gate_builtin (b := .append) (xs := #[.tmp 83, .tmp 84]) rfl ?_); at_builtin; refine Kd.R_append_rows (Kd.int .u8) (w0 := x3) x3.heap.size rfl (.tmp 83) (.tmp 84) 22 5 (.int .u8 0) 1 rfl Try.underlying22 info_u8 rfl (by decide) (by omega) v5 [] d _ _ _ (fun _ => True) (fun _ => False) rfl rfl ?aO ?aR (fun _ _ h => h) (fun _ h => h.elim) ?aF ?aB ?aS ?aL ?_; (case aR => exact (by repeat (first | exact (Kd.C_below HD3.out HL3.out) | (with_reducible refine Kd.C_alloc ?_ _) | (with_reducible refine Kd.C_drewN ?_ _) | (with_reducible refine Kd.C_drew ?_)))); (case aB => exact (by repeat (first | (with_reducible first | exact HL3.out | apply below_alloc | apply pw_below_drewN | apply below_drew1) | exact HL3.out))); (case aF => exact (fun _ _ => trivial)); (case aO => exact (by (with_reducible repeat (first | apply Kd.R_alloc | apply Kd.R_drewN | apply Kd.R_drew)); exact HO5.out)); (case aS => exact (below_size (by repeat (first | (with_reducible first | exact HL3.out | apply below_alloc | apply pw_below_drewN | apply below_drew1) | exact HL3.out)))); (case aL => simp only [List.length_nil]; omega); intro v6 w6 ho hb hg hat; have n0_ := Aside0.mk (hb); have n1_ := Aside0.mk (ho); clear HL3; clear HO5; have HL3 := n0_; have HO6 := n1_; clear n0_ n1_; clear ho hb hg hat)
        | ((with_reducible refine gate_builtin (b := .append) (xs := #[.tmp 85, .tmp 86]) rfl ?_); at_builtin; refine Kd.R_append (Kd.int .u8) (w0 := x3) x3.heap.size rfl (.tmp 85) (.tmp 86) 22 5 (.int .u8 0) 1 rfl Try.underlying22 info_u8 rfl (by decide) (by omega) v6 ([] ++ d) (0) [(.int .u8 (0))] (fun _ => True) (fun _ => False) rfl rfl ?aP (fun _ hk => hk.elim) ?aF ?aO ?aB ?aS ?aL ?_; (case aP => exact rfl); (case aB => exact (by repeat (first | (with_reducible first | exact HL3.out | apply below_alloc | apply pw_below_drewN | apply below_drew1) | exact HL3.out))); (case aF => exact (fun _ _ => trivial)); (case aO => exact (by (with_reducible repeat (first | apply Kd.R_alloc | apply Kd.R_drewN | apply Kd.R_drew)); exact HO6.out)); (case aS => exact (below_size (by repeat (first | (with_reducible first | exact HL3.out | apply below_alloc | apply pw_below_drewN | apply below_drew1) | exact HL3.out)))); (case aL => simp only [List.length_nil, List.nil_append]; omega); intro v7 w7 ho hb hg hat; have n0_ := Aside0.mk (hb); have n1_ := Aside0.mk (ho); clear HL3; clear HO6; have HL3 := n0_; have HO7 := n1_; clear n0_ n1_; clear ho hb hg hat))
      obtain ⟨A7, c7, e7, hc7, hC7⟩ := Kd.R_reads HO7.out
      subst e7
      rw [List.nil_append] at hc7 hC7 ⊢
      refine (takeDs_C A7 c7 (d ++ [0]) _ hC7 hc7 (isBytes_append.2 ⟨HDB.out, fun c hc => by simp at hc; omega⟩) _ _ HT2.out).mono ?_
      rintro e x4 ⟨Au, cu, rfl, hu1, hu2, hb⟩
      have HX4 := Aside0.mk (below_then HX3.out HX3.out.size (below_step ((by repeat (first | (with_reducible first | exact HL3.out | apply below_alloc | apply pw_below_drewN | apply below_drew1) | exact HL3.out)) : Below x3.heap.size x3 _) hb))
      clear HO7 hc7 hC7 hu1 hu2 hb HX3 HD3 HL3
      go_wp2_with fail
      go_ret
      exact ⟨rfl, HX4.out⟩
    · have hdn : (de != 0) = true := bne_iff_ne.mpr hde
      clear hde
      go_wp2_with fail
      go_ret
      exact ⟨rfl, HX2.out⟩
  · have hpn : (pe == 0) = false := beq_eq_false_iff_ne.mpr hpe
    clear hpe
    have HSM := Aside0.mk (some_C A2 c2 l w4 (Kd.C_below HC2.out HB.out) hc2)
    go_wp2_with fail
    refine HSM.out.mono ?_
    rintro e x1 ⟨As, cs, rfl, hs1, hs2, hb⟩
    have HP1 := Aside0.mk (putDs_C As cs (someD l) x1 hs2 hs1 HFD.out d de HDD.out)
    have HX1 := Aside0.mk (below_step HB.out hb)
    clear HSM HB hs1 hs2 hb
    go_wp2_with fail
    refine HP1.out.mono ?_
    rintro e x2 ⟨Ad, cd, rfl, hd1, hd2, hb⟩
    have HX2 := Aside0.mk (below_step HX1.out hb)
    have HD1 := Aside0.mk hd1
    have HD2 := Aside0.mk hd2
    clear HP1 HX1 hb hd1 hd2
    by_cases hde : de = 0
    · have hdn : (de != 0) = false := bne_eq_false_iff_eq.mpr hde
      have HOK := Aside0.mk (putDs_ok (l := someD l) (by rw [HDD.out]; exact hde))
      have HDE : Aside0 (d = encDs (someD l)) := ⟨by
        have h := HOK.out.2.2
        rw [HDD.out] at h
        exact (Prod.mk.inj h).1⟩
      have HDB : Aside0 (isBytes d) := ⟨by rw [HDE.out]; exact encDs_bytes _⟩
      have hdpos : 1 ≤ d.length := by rw [HDE.out]; exact encDs_pos _
      have hdlen : d.length ≤ 9000 := by rw [HDE.out]; exact encDs_size HOK.out.1 HOK.out.2.1
      have HT1 : Aside0 (takeDs (d.take (d.length - 1)) = ([], 2)) := ⟨by rw [HDE.out]; exact takeDs_cut HOK.out.1 HOK.out.2.1⟩
      have HT2 : Aside0 (takeDs (d ++ [0]) = ([], 2)) := ⟨by rw [HDE.out]; exact takeDs_more HOK.out.1 HOK.out.2.1⟩
      have hdz : decide ((d.length : Int) = 0) = false := decide_eq_false (by omega)
      have hdz2 : ((d.length : Int) == 0) = false := beq_eq_false_iff_ne.mpr (by omega)
      clear hde
      obtain ⟨d', hd'⟩ : ∃ d', d' = d.take (d.length - 1) := ⟨_, rfl⟩
      have hlen' : d'.length = d.length - 1 := by rw [hd', List.length_take]; omega
      have hleni : (d'.length : Int) = (d.length : Int) - 1 := by omega
      rw [← hd'] at HT1
      have HDC := Aside0.mk (show Kd.C (Kd.int .u8) x2 Ad d'.length d' by rw [hlen', hd']; exact take_C HD2.out (by omega))
      have HDB1 : Aside0 (isBytes d') := ⟨by rw [hd']; exact isBytes_take HDB.out _⟩
      have hdc : d'.length ≤ cd := by have := HD1.out; omega
      obtain ⟨i0, hi0⟩ : ∃ i0, Try.prog.info? 5 = some i0 ∧ i0.size = 1 := by obtain ⟨i0, h1, h2⟩ := Option.map_eq_some_iff.1 size_u8; exact ⟨i0, h1, h2⟩
      have hcut := cut_to (P := Try.prog) 22 5 .i64 Try.underlying22 hi0.1 Ad d.length cd ((d.length : Int) - 1) (by omega) (by omega) HD1.out
      rw [show ((d.length : Int) - 1).toNat = d'.length by omega] at hcut
      have HTC := Aside0.mk (takeDs_C Ad cd d' x2 HDC.out hdc HDB1.out _ _ HT1.out)
      have HLEN := Aside0.mk hlen'
      have HD' := Aside0.mk hd'
      have HLENI := Aside0.mk hleni
      clear hlen' hd' hleni hdc hi0 HDC
      go_wp2_with fail
      refine HTC.out.mono ?_
      rintro e x3 ⟨At, ct, rfl, ht1, ht2, hb⟩
      have HX3 := Aside0.mk (below_step HX2.out hb)
      have HD3 := Aside0.mk (Kd.C_below HD2.out hb)
      have HL3 := Aside0.mk (Below.refl x3.heap.size x3)
      clear HTC HX2 ht1 ht2 hb hcut
      go_wp2_with (first
        | ((with_reducible refine gate_dst (N := 83) rfl ?_); refine Kd.R_lit (Kd.int .u8) (w0 := x3) x3.heap.size 5 ?hg (N := 83) ?hd (xs := []) (inner := []) (ok := fun _ => True) (okp := fun _ => True) ?hr ?hp (fun _ hk => hk) trivial ?hB ?hS (by simp) ?_; (case hd => rfl); (case hg => rfl); (case hr => first | (go_simp; done) | (go_simp; rfl)); (case hp => exact (Reps.none _ _)); (case hB => exact (by repeat (first | (with_reducible first | exact HL3.out | apply below_alloc | apply pw_below_drewN | apply below_drew1) | exact HL3.out))); (case hS => exact (below_size (by repeat (first | (with_reducible first | exact HL3.out | apply below_alloc | apply pw_below_drewN | apply below_drew1) | exact HL3.out)))); intro v5 w5 ho hb hg hat; have n0_ := Aside0.mk (hb); have n1_ := Aside0.mk (ho); clear HL3; have HL3 := n0_; have HO5 := n1_; clear n0_ n1_; clear ho hb hg hat)
        | ((with_reducible refine gate_builtin (b := .append) (xs := #[.tmp 83, .tmp 84]) rfl ?_); at_builtin; refine Kd.R_append_rows (Kd.int .u8) (w0 := x3) x3.heap.size rfl (.tmp 83) (.tmp 84) 22 5 (.int .u8 0) 1 rfl Try.underlying22 info_u8 rfl (by decide) (by omega) v5 [] d _ _ _ (fun _ => True) (fun _ => False) rfl rfl ?aO ?aR (fun _ _ h => h) (fun _ h => h.elim) ?aF ?aB ?aS ?aL ?_; (case aR => exact (by repeat (first | exact (Kd.C_below HD3.out HL3.out) | (with_reducible refine Kd.C_alloc ?_ _) | (with_reducible refine Kd.C_drewN ?_ _) | (with_reducible refine Kd.C_drew ?_)))); (case aB => exact (by repeat (first | (with_reducible first | exact HL3.out | apply below_alloc | apply pw_below_drewN | apply below_drew1) | exact HL3.out))); (case aF => exact (fun _ _ => trivial)); (case aO => exact (by (with_reducible repeat (first | apply Kd.R_alloc | apply Kd.R_drewN | apply Kd.R_drew)); exact HO5.out)); (case aS => exact (below_size (by repeat (first | (with_reducible first | exact HL3.out | apply below_alloc | apply pw_below_drewN | apply below_drew1) | exact HL3.out)))); (case aL => simp only [List.length_nil]; omega); intro v6 w6 ho hb hg hat; have n0_ := Aside0.mk (hb); have n1_ := Aside0.mk (ho); clear HL3; clear HO5; have HL3 := n0_; have HO6 := n1_; clear n0_ n1_; clear ho hb hg hat)
        | ((with_reducible refine gate_builtin (b := .append) (xs := #[.tmp 85, .tmp 86]) rfl ?_); at_builtin; refine Kd.R_append (Kd.int .u8) (w0 := x3) x3.heap.size rfl (.tmp 85) (.tmp 86) 22 5 (.int .u8 0) 1 rfl Try.underlying22 info_u8 rfl (by decide) (by omega) v6 ([] ++ d) (0) [(.int .u8 (0))] (fun _ => True) (fun _ => False) rfl rfl ?aP (fun _ hk => hk.elim) ?aF ?aO ?aB ?aS ?aL ?_; (case aP => exact rfl); (case aB => exact (by repeat (first | (with_reducible first | exact HL3.out | apply below_alloc | apply pw_below_drewN | apply below_drew1) | exact HL3.out))); (case aF => exact (fun _ _ => trivial)); (case aO => exact (by (with_reducible repeat (first | apply Kd.R_alloc | apply Kd.R_drewN | apply Kd.R_drew)); exact HO6.out)); (case aS => exact (below_size (by repeat (first | (with_reducible first | exact HL3.out | apply below_alloc | apply pw_below_drewN | apply below_drew1) | exact HL3.out)))); (case aL => simp only [List.length_nil, List.nil_append]; omega); intro v7 w7 ho hb hg hat; have n0_ := Aside0.mk (hb); have n1_ := Aside0.mk (ho); clear HL3; clear HO6; have HL3 := n0_; have HO7 := n1_; clear n0_ n1_; clear ho hb hg hat))
      obtain ⟨A7, c7, e7, hc7, hC7⟩ := Kd.R_reads HO7.out
      subst e7
      rw [List.nil_append] at hc7 hC7 ⊢
      refine (takeDs_C A7 c7 (d ++ [0]) _ hC7 hc7 (isBytes_append.2 ⟨HDB.out, fun c hc => by simp at hc; omega⟩) _ _ HT2.out).mono ?_
      rintro e x4 ⟨Au, cu, rfl, hu1, hu2, hb⟩
      have HX4 := Aside0.mk (below_then HX3.out HX3.out.size (below_step ((by repeat (first | (with_reducible first | exact HL3.out | apply below_alloc | apply pw_below_drewN | apply below_drew1) | exact HL3.out)) : Below x3.heap.size x3 _) hb))
      clear HO7 hc7 hC7 hu1 hu2 hb HX3 HD3 HL3
      go_wp2_with fail
      go_ret
      exact ⟨rfl, HX4.out⟩
    · have hdn : (de != 0) = true := bne_iff_ne.mpr hde
      clear hde
      go_wp2_with fail
      go_ret
      exact ⟨rfl, HX2.out⟩
theorem qcodeMore_law (cs : Array Value) (x : S25) (A0 : Option Addr) (len cap : Nat) (z : List Int) (vs : Value) (xs : List S36) (w : World) (y : k25.K w x cs.toList) (hx : OkInQ x.f0)
    (w1 : (A0 = none ∧ len = 0 ∧ cap = 0 ∧ z = []) ∨ ∃ x, A0 = some x ∧ len ≤ cap ∧ cap ≤ maxLen ∧ z.length = cap ∧ (∀ i, i < z.length → w.cell? (x.add i) = some (.int .u8 (z.getD i 0))) ∧ ∀ n ∈ z, (Lit.int .u8 n).wf = true) (y1 : len * 1 ≤ 140737488351232) (y' : (Kd.slice 36 k36).K w xs [vs]) (hx' : OkInD xs) :
    Calls Try.prog 8 #[.agg cs, .slice A0 len cap, vs] w fun e w' => e = .returned (.bool true) ∧ Below w.heap.size w w' := by
  obtain ⟨A1, c1, e, hc1, hC1⟩ := k25_open y
  obtain rfl : cs = #[.slice A1 x.f0.length c1] := by cases cs; simp_all
  obtain ⟨A2, c2, e2, hc2, hC2⟩ := y'
  obtain rfl : vs = .slice A2 xs.length c2 := by simpa using e2
  exact qcodeMore_walk A1 c1 x.f0 A0 len cap z A2 c2 xs w hC1 hc1 (fitsQQcodeMore hx) w1 y1 hC2 hc2 (fitsDQcodeMore hx')
end Go.Proofs.Ytdpigeineephlaa.Prt

/- The statement NumText: the walk of the law. -/
import Derived.Test.YtnkaighdajickaaN5
namespace Go.Proofs.Ytnkaighdajickaa.Num
open Go.RowKit Go.Proofs.YtnkaighdajickaaW.PrintWords Go.Proofs.YtnkaighdajickaaW.PrintLast Go.Proofs.YtnkaighdajickaaW.PrintMore
set_option linter.unusedVariables false
set_option linter.unusedSimpArgs false

theorem encT_str (t : ByteArray) : strOfNums (encT (bytesOf t)) = strOfNums (enc (t.size : Int)) ++ t := by
  unfold encT
  rw [str_append, bytesOf_length, strOfNums_bytesOf]
theorem textOf_encT {t : ByteArray} (h : t.size ≤ 9223372036854775807) (r : List Int) (bad : Bool) : textOf (encT (bytesOf t) ++ r) = t ∧ aftT (encT (bytesOf t) ++ r) = r ∧ badT (encT (bytesOf t) ++ r) bad = bad := by
  unfold textOf aftT badT
  rw [decT_encT (by rw [bytesOf_length]; exact h)]
  exact ⟨strOfNums_bytesOf t, rfl, by simp⟩
theorem encT_len {t : ByteArray} (h : t.size ≤ 9223372036854775807) : (encT (bytesOf t)).length ≤ t.size + 10 := by
  unfold encT
  rw [List.length_append, bytesOf_length]
  have := enc_len (x := (t.size : Int)) ⟨by omega, by omega⟩
  omega
theorem encT_bytes (t : ByteArray) : isBytes (encT (bytesOf t)) := isBytes_append.2 ⟨enc_bytes _, bytesOf_isBytes t⟩
theorem text_law (s : ByteArray) (A1 : Option Addr) (len1 cap1 : Nat) (z1 : List Int) (w : World) (ws : s.size ≤ 140737488351232) (w1 : (A1 = none ∧ len1 = 0 ∧ cap1 = 0 ∧ z1 = []) ∨ ∃ x, A1 = some x ∧ len1 ≤ cap1 ∧ cap1 ≤ maxLen ∧ z1.length = cap1 ∧ (∀ i, i < z1.length → w.cell? (x.add i) = some (.int .u8 (z1.getD i 0))) ∧ ∀ n ∈ z1, (Lit.int .u8 n).wf = true) (y1 : len1 * 1 ≤ 140737488351232) :
    Calls Try.prog 10 #[.string s, .slice A1 len1 cap1] w fun e w' => e = .returned (.bool true) ∧ Below w.heap.size w w' := by
  obtain ⟨l, rfl, hr, hm1, hw, hc1⟩ := ReadsInt.ofRowC w1
  have hC := Kd.C_of_reads (d := (0 : Int)) (h1 := fun _ => rfl) hr
  have HR1 := Aside0.mk hC
  have HBY1 := Aside0.mk (isBytes_wf hw)
  clear w1 hr hw hC
  go_enter Try.func10, Try.ntmps10
  go_upto_if 12 with ((go_at_call 11; refine (shown_calls _).mono ?_; rintro e w1 ⟨rfl, hb⟩; have HB := Aside0.mk hb; clear hb))
  obtain ⟨t, ht⟩ : ∃ t, t = s.extract 0 (min 200 s.size) := ⟨_, rfl⟩
  have hsz_t : t.size ≤ 200 := by rw [ht, ByteArray.size_extract]; omega
  go_cut [0] (fun vc wc => vc = .string t ∧ w1 = wc)
  case first =>
    by_cases hb_ : 200 < s.size
    · rw [Nat.min_eq_left (by omega)] at ht
      have HT := Aside0.mk ht
      clear ht
      go_wp2
      go_meet
      case rel => exact ⟨by rw [HT.out], rfl⟩
    · rw [Nat.min_eq_right (by omega), ByteArray.extract_zero_size] at ht
      subst ht
      go_wp2
      go_meet
      case rel => exact ⟨rfl, rfl⟩
  case rest =>
  obtain ⟨rfl, rfl⟩ := hcut
  clear ht
  go_upto_if 17 with (fail)
  obtain ⟨n1, hn⟩ : ∃ n, n = min 50 l.length := ⟨_, rfl⟩
  have hna1 : n1 ≤ 50 := by omega
  have hnb1 : n1 ≤ l.length := by omega
  go_cut [1] (fun vc wc => vc = .slice A1 n1 cap1 ∧ w1 = wc)
  case first =>
    by_cases hb_ : 50 < l.length
    · have e : n1 = 50 := by omega
      subst e
      clear hn
      go_wp2
      go_meet
      case rel => exact ⟨rfl, rfl⟩
    · have e : n1 = l.length := by omega
      subst e
      clear hn
      go_wp2
      go_meet
      case rel => exact ⟨rfl, rfl⟩
  case rest =>
  obtain ⟨rfl, rfl⟩ := hcut
  have hcap1 : n1 ≤ cap1 := by omega
  obtain ⟨lb, hlb⟩ : ∃ lb, lb = l.take n1 := ⟨_, rfl⟩
  have hlen : lb.length = n1 := by rw [hlb, List.length_take]; omega
  have HLB1 := Aside0.mk (show (Kd.int .u8).C w A1 lb.length lb by rw [hlen, hlb]; exact take_C HR1.out hnb1)
  have HBZ1 := Aside0.mk (show isBytes lb by rw [hlb]; exact isBytes_take HBY1.out n1)
  clear hlb hn HR1 HBY1
  subst hlen
  obtain ⟨lt, hlt⟩ : ∃ lt, lt = encT (bytesOf t) := ⟨_, rfl⟩
  obtain ⟨ln, hln⟩ : ∃ ln, ln = enc (t.size : Int) := ⟨_, rfl⟩
  have hll := encT_len (t := t) (by omega)
  rw [← hlt] at hll
  have HT := Aside0.mk hlt
  have HN := Aside0.mk hln
  clear hlt hln
  go_wp2_with fail
  refine (putTextL _ [] t _ (Lst.nil _ _) (by simp only [List.length_nil]; omega)).mono ?_
  rintro e w2 ⟨v6, rfl, h6, hb⟩
  rw [List.nil_append, ← HT.out] at h6
  have H6 := Aside0.mk h6
  have n1_ := Aside0.mk (below_step HB.out hb); clear HB; have HB := n1_; clear n1_ h6 hb
  go_wp2_with fail
  refine (putL _ [] (t.size : Int) _ (Lst.nil _ _) (by omega) (by omega) (by decide)).mono ?_
  rintro e w3 ⟨v7, rfl, h7, hb⟩
  rw [List.nil_append, ← HN.out] at h7
  have n2_ := Aside0.mk (H6.out.below hb)
  have n1_ := Aside0.mk (below_step HB.out hb); clear HB H6; have HB := n1_; have H6 := n2_; clear n1_ n2_ hb
  have H7 := Aside0.mk h7
  clear h7
  obtain ⟨A6, c6, rfl, hc6, hC6⟩ := H6.out
  have n3_ := Aside0.mk hC6
  have n4_ := Aside0.mk (Kd.C_below HLB1.out HB.out)
  clear hC6 HLB1
  have HL := Aside0.mk (Below.refl w3.heap.size w3)
  go_wp2_with (first
    | ((with_reducible refine gate_dst (N := 25) rfl ?_); refine Kd.R_lit (Kd.int .u8) (w0 := w3) w3.heap.size 5 ?hg (N := 25) ?hd (xs := []) (inner := []) (ok := fun _ => True) (okp := fun _ => True) ?hr ?hp (fun _ hk => hk) trivial ?hB ?hS (by simp) ?_; (case hd => rfl); (case hg => rfl); (case hr => first | (go_simp; done) | (go_simp; rfl)); (case hp => exact (Reps.none _ _)); (case hB => exact (by repeat (first | (with_reducible first | exact HL.out | apply below_alloc | apply pw_below_drewN | apply below_drew1) | exact HL.out))); (case hS => exact (below_size (by repeat (first | (with_reducible first | exact HL.out | apply below_alloc | apply pw_below_drewN | apply below_drew1) | exact HL.out)))); intro v1 w1 ho hb hg hat; have n0_ := Aside0.mk (hb); have n1_ := Aside0.mk (ho); clear HL; have HL := n0_; have HO1 := n1_; clear n0_ n1_; clear ho hb hg hat)
    | ((with_reducible refine gate_builtin (b := .append) (xs := #[.tmp 25, .tmp 26]) rfl ?_); at_builtin; refine Kd.R_append_rows (Kd.int .u8) (w0 := w3) w3.heap.size rfl (.tmp 25) (.tmp 26) 23 5 (.int .u8 0) 1 rfl Try.underlying23 info_u8 rfl (by decide) (by omega) v1 [] lt _ _ _ (fun _ => True) (fun _ => False) rfl rfl ?aO ?aR (fun _ _ h => h) (fun _ h => h.elim) ?aF ?aB ?aS ?aL ?_; (case aR => exact (by repeat (first | exact (Kd.C_below n3_.out HL.out) | (with_reducible refine Kd.C_alloc ?_ _) | (with_reducible refine Kd.C_drewN ?_ _) | (with_reducible refine Kd.C_drew ?_)))); (case aB => exact (by repeat (first | (with_reducible first | exact HL.out | apply below_alloc | apply pw_below_drewN | apply below_drew1) | exact HL.out))); (case aF => exact (fun _ _ => trivial)); (case aO => exact (by (with_reducible repeat (first | apply Kd.R_alloc | apply Kd.R_drewN | apply Kd.R_drew)); exact HO1.out)); (case aS => exact (below_size (by repeat (first | (with_reducible first | exact HL.out | apply below_alloc | apply pw_below_drewN | apply below_drew1) | exact HL.out)))); (case aL => simp only [List.length_nil]; omega); intro v2 w2 ho hb hg hat; have n0_ := Aside0.mk (hb); have n1_ := Aside0.mk (ho); clear HL; clear HO1; have HL := n0_; have HO2 := n1_; clear n0_ n1_; clear ho hb hg hat)
    | ((with_reducible refine gate_builtin (b := .append) (xs := #[.tmp 27, .tmp 28]) rfl ?_); at_builtin; refine Kd.R_append_rows (Kd.int .u8) (w0 := w3) w3.heap.size rfl (.tmp 27) (.tmp 28) 23 5 (.int .u8 0) 1 rfl Try.underlying23 info_u8 rfl (by decide) (by omega) v2 ([] ++ lt) lb _ _ _ (fun _ => True) (fun _ => False) rfl rfl ?aO ?aR (fun _ _ h => h) (fun _ h => h.elim) ?aF ?aB ?aS ?aL ?_; (case aR => exact (by repeat (first | exact (Kd.C_below n4_.out HL.out) | (with_reducible refine Kd.C_alloc ?_ _) | (with_reducible refine Kd.C_drewN ?_ _) | (with_reducible refine Kd.C_drew ?_)))); (case aB => exact (by repeat (first | (with_reducible first | exact HL.out | apply below_alloc | apply pw_below_drewN | apply below_drew1) | exact HL.out))); (case aF => exact (fun _ _ => trivial)); (case aO => exact (by (with_reducible repeat (first | apply Kd.R_alloc | apply Kd.R_drewN | apply Kd.R_drew)); exact HO2.out)); (case aS => exact (below_size (by repeat (first | (with_reducible first | exact HL.out | apply below_alloc | apply pw_below_drewN | apply below_drew1) | exact HL.out)))); (case aL => simp only [List.length_nil, List.length_append]; omega); intro v5 w5 ho hb hg hat; have n0_ := Aside0.mk (hb); have n1_ := Aside0.mk (ho); clear HL; clear HO2; have HL := n0_; have HO5 := n1_; clear n0_ n1_; clear ho hb hg hat))
  have hv := Lst.of_R HO5.out
  rw [List.nil_append] at hv
  have HL5 := HL
  refine (newReaderL _ (lt ++ lb) _ hv).mono ?_
  rintro e w6 ⟨g, rfl, hI, hb, hg⟩
  have HI := Aside0.mk hI; have HB2 := Aside0.mk hb; have n_ := Aside0.mk (below_step HL.out hb); clear HL hI hb; have HL := n_; clear n_
  obtain ⟨t1, t2, t3⟩ := textOf_encT (t := t) (by omega) lb false
  rw [← HT.out] at t1 t2 t3
  have hby : isBytes (lt ++ lb) := isBytes_append.2 ⟨by rw [HT.out]; exact encT_bytes t, HBZ1.out⟩
  have hcv := Lst.conv ((Lst.mk hc6 n3_.out).below HL.out)
  obtain ⟨A7, c7, rfl, hc7, hC7⟩ := H7.out
  have hcv2 := Lst.conv ((Lst.mk hc7 hC7).below HL.out)
  have hcmp : ((strOfNums lt).toList == (strOfNums ln ++ t).toList) = true := by rw [HT.out, HN.out, encT_str, beq_self_eq_true]
  have hs1 : (strOfNums ln).size + t.size ≤ 9223372036854775807 := by
    rw [strOfNums_size, HN.out]
    have := enc_len (x := (t.size : Int)) ⟨by omega, by omega⟩
    omega
  clear hC7
  go_wp2_with fail
  refine (text_calls w5 _ g (lt ++ lb) false HI.out HB2.out hby).mono ?_
  rw [t1, t2, t3]
  rintro e w7 ⟨rfl, hI, hb, hk⟩
  have HI7 := Aside0.mk hI; have HB7 := Aside0.mk hb; clear hI hb hk HI HB2
  go_wp2_with fail
  refine (left_calls w5 _ g lb false HI7.out).mono ?_
  rintro e w8 ⟨rfl, rfl⟩
  go_wp2_with fail
  refine (bad_calls w5 _ g lb false HI7.out).mono ?_
  rintro e w8 ⟨rfl, rfl⟩
  go_wp2
  go_ret
  exact ⟨rfl, below_step (below_step HB.out HL5.out) HB7.out⟩
end Go.Proofs.Ytnkaighdajickaa.Num

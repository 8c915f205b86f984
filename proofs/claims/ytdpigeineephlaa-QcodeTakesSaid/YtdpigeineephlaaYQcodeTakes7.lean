/- The statement QcodeTakes: the walk of the law. -/
import Derived.Test.YtdpigeineephlaaYQcodeTakes1
import Derived.Test.YtdpigeineephlaaYQcodeTakes2
import Derived.Test.YtdpigeineephlaaYQcodeTakes3
import Derived.Test.YtdpigeineephlaaYQcodeTakes4
import Derived.Test.YtdpigeineephlaaYQcodeTakes5
import Derived.Test.YtdpigeineephlaaYQcodeTakes6
namespace Go.Proofs.Ytdpigeineephlaa.Prt
open Go.RowKit Go.Proofs.YtdpigeineephlaaW.PrintWords Go.Proofs.YtdpigeineephlaaW.PrintLast Go.Proofs.YtdpigeineephlaaW.PrintMore Go.Proofs.Ytdpigeineephlaa.Num Go.Proofs.Ytdpigeineephlaa.Nam
set_option linter.unusedVariables false
set_option linter.unusedSimpArgs false

theorem isBytes_wf {l : List Int} (h : ∀ n ∈ l, (Lit.int .u8 n).wf = true) : isBytes l := by
  intro c hc
  have h1 := h c hc
  simp [Lit.wf, IntKind.min, IntKind.max, IntKind.bits, IntKind.signed] at h1
  omega
theorem takeQ_lens (l : List Int) (hb : isBytes l) : (takeQ l false).1.length ≤ 4 ∧ (takeQ l false).1.all lenC = true := by
  rcases takeQ_code l false with h | h
  · have h0 := (takeQ_good hb (q := (takeQ l false).1) (l' := (takeQ l false).2.2.1) (b' := (takeQ l false).2.2.2) (by rw [← h])).2.2.2.1
    refine ⟨h0.h4, List.all_eq_true.2 fun x hx => ?_⟩
    have h1 := (h0.hc x hx).h0
    have h2 := (h0.hc x hx).h1
    unfold lenC
    rw [Bool.and_eq_true, decide_eq_true_iff, decide_eq_true_iff]; omega
  · rw [h.2]; exact ⟨Nat.zero_le _, rfl⟩
theorem okQ_lenC {q : List S60} (h : OkQ q) : q.all lenC = true := List.all_eq_true.2 fun x hx => by
  have h1 := (h.hc x hx).h0
  have h2 := (h.hc x hx).h1
  unfold lenC
  rw [Bool.and_eq_true, decide_eq_true_iff, decide_eq_true_iff]; omega
theorem eqQ_self (q : List S60) : eqL eqC q q = true := (eqL_iff eqC_iff q q).2 rfl
theorem eqDs_self (q : List S36) : eqL eqD q q = true := (eqL_iff eqD_iff q q).2 rfl
theorem takeDs_lens (l : List Int) : (takeDs l).1.length ≤ 4 ∧ (takeDs l).1.all lenD7 = true := by
  rcases takeDs_code l with ⟨m, h, h4, ho, _⟩ | h
  · rw [h]
    refine ⟨h4, List.all_eq_true.2 fun x hx => ?_⟩
    have h1 := (ho x hx).hq
    have h2 := h1.h4
    have h3 := okQ_lenC h1
    unfold lenD7
    first
      | exact ⟨by omega, h3⟩
      | (rw [Bool.and_eq_true, decide_eq_true_iff]; exact ⟨by omega, h3⟩)
      | (simp only [Bool.and_eq_true, decide_eq_true_eq]; exact ⟨by omega, h3⟩)
  · rw [h]; exact ⟨Nat.zero_le _, rfl⟩
open Go.Proofs.YtdpigeineephlaaW.PrintLast
def D6.T14 : Bool × List (List Nat × List Nat) := (true, [([], []), ([0], [0]), ([1], [1]), ([1, 2], [1, 2]), ([3, 1], [3]), ([4], [4]), ([4], [4]), ([5, 6, 4], [4, 5, 6]), ([4, 7], [4, 7]), ([8, 4], [8]), ([9], [9]), ([10, 9], [9, 10]), ([11, 9, 9], [9, 11]), ([12], [12]), ([13, 12, 12], [12, 13]), ([12], [12]), ([15, 12], [12, 15]), ([16, 12], [12, 16]), ([17, 12], [12, 17]), ([18, 12], [12, 18]), ([14, 19, 12], [12, 14, 19]), ([12, 20, 9], [9, 12, 20]), ([9, 21], [9, 21]), ([22, 14], [22]), ([23], [23]), ([23, 24], [23, 24]), ([25, 23], [25]), ([26], [26]), ([26], [26]), ([27, 28, 26], [26, 27, 28]), ([26, 29], [26, 29]), ([30, 26, 0, 1, 2, 3, 4, 5, 6, 7, 8, 9, 10, 11, 12, 13, 14, 15, 16, 17, 18, 19, 20, 21, 22, 23, 24, 25, 26, 27, 28, 29, 30], [30])])
def D6.B14 : List Nat := [0, 1, 3, 7, 15, 31, 31, 127, 255, 511, 1023, 2047, 4095, 8191, 16383, 8191, 40959, 106495, 237567, 499711, 1048575, 2097151, 4194303, 8388607, 16777215, 33554431, 67108863, 134217727, 134217727, 536870911, 1073741823, 2147483647]
theorem D6.tab14 : rtab .any (opsOf Try.f6 14) = D6.T14 := by kernel_rfl
theorem D6.bits14 : waitsOk D6.T14.2 D6.B14 = true := by kernel_rfl
set_option maxHeartbeats 4000000 in
set_option maxRecDepth 100000 in
theorem qcodeTakes_law (A0 : Option Addr) (len0 cap0 : Nat) (z0 : List Int) (w : World) (w0 : (A0 = none ∧ len0 = 0 ∧ cap0 = 0 ∧ z0 = []) ∨ ∃ x, A0 = some x ∧ len0 ≤ cap0 ∧ cap0 ≤ maxLen ∧ z0.length = cap0 ∧ (∀ i, i < z0.length → w.cell? (x.add i) = some (.int .u8 (z0.getD i 0))) ∧ ∀ n ∈ z0, (Lit.int .u8 n).wf = true) (y0 : len0 * 1 ≤ 140737488351232) :
    Calls Try.prog 6 #[.slice A0 len0 cap0] w fun e w' => e = .returned (.bool true) ∧ Below w.heap.size w w' := by
  obtain ⟨l0, rfl, hr, hm0, hw, hc0⟩ := ReadsInt.ofRowC w0
  have hC := Kd.C_of_reads (d := (0 : Int)) (h1 := fun _ => rfl) hr
  have HR0 := Aside0.mk hC
  have HBY0 := Aside0.mk (isBytes_wf hw)
  clear w0 hr hw hC
  clear y0
  have hu25 := Try.underlying25
  go_enter Try.func6, Try.ntmps6
  go_upto_if 19 with ((go_at_call 9; refine (registrarlaw07_shown.calls true _ shown07).mono ?_; rintro e w1 ⟨rfl, hb⟩; have HB := Aside0.mk hb; clear hb))
  obtain ⟨n0, hn⟩ : ∃ n, n = min 600 l0.length := ⟨_, rfl⟩
  have hna0 : n0 ≤ 600 := by omega
  have hnb0 : n0 ≤ l0.length := by omega
  go_cut [0] (fun vc wc => vc = .slice A0 n0 cap0 ∧ w1 = wc)
  case first =>
    by_cases hb_ : 600 < l0.length
    · have e : n0 = 600 := by omega
      subst e
      clear hn
      go_wp2
      go_meet
      case rel => exact ⟨rfl, rfl⟩
    · have e : n0 = l0.length := by omega
      subst e
      clear hn
      go_wp2
      go_meet
      case rel => exact ⟨rfl, rfl⟩
  case rest =>
  obtain ⟨rfl, rfl⟩ := hcut
  have hcap0 : n0 ≤ cap0 := by omega
  obtain ⟨lb, hlb⟩ : ∃ lb, lb = l0.take n0 := ⟨_, rfl⟩
  have hlen : lb.length = n0 := by rw [hlb, List.length_take]; omega
  have HLB0 := Aside0.mk (show (Kd.int .u8).C w A0 lb.length lb by rw [hlen, hlb]; exact take_C HR0.out hnb0)
  have HBZ0 := Aside0.mk (show isBytes lb by rw [hlb]; exact isBytes_take HBY0.out n0)
  clear hlb hn HR0 HBY0
  subst hlen
  go_wp2_with (first
    | ((with_reducible refine gate_dst (N := 22) rfl ?_); refine Kd.R_lit (Kd.int .u8) (w0 := w) w.heap.size 5 ?hg (N := 22) ?hd (xs := []) (inner := []) (ok := fun _ => True) (okp := fun _ => True) ?hr ?hp (fun _ hk => hk) trivial ?hB ?hS (by simp) ?_; (case hd => rfl); (case hg => rfl); (case hr => first | (go_simp; done) | (go_simp; rfl)); (case hp => exact (Reps.none _ _)); (case hB => exact (by repeat (first | (with_reducible first | exact HB.out | apply below_alloc | apply pw_below_drewN | apply below_drew1) | exact HB.out))); (case hS => exact (below_size (by repeat (first | (with_reducible first | exact HB.out | apply below_alloc | apply pw_below_drewN | apply below_drew1) | exact HB.out)))); intro v1 w1 ho hb hg hat; have n0_ := Aside0.mk (hb); have n1_ := Aside0.mk (ho); clear HB; have HB := n0_; have HO1 := n1_; clear n0_ n1_; clear ho hb hg hat)
    | ((with_reducible refine gate_builtin (b := .append) (xs := #[.tmp 22, .tmp 23]) rfl ?_); at_builtin; refine Kd.R_append_rows (Kd.int .u8) (w0 := w) w.heap.size rfl (.tmp 22) (.tmp 23) 22 5 (.int .u8 0) 1 rfl Try.underlying22 info_u8 rfl (by decide) (by omega) v1 [] lb _ _ _ (fun _ => True) (fun _ => False) rfl rfl ?aO ?aR (fun _ _ h => h) (fun _ h => h.elim) ?aF ?aB ?aS ?aL ?_; (case aR => exact (by repeat (first | exact (Kd.C_below HLB0.out HB.out) | (with_reducible refine Kd.C_alloc ?_ _) | (with_reducible refine Kd.C_drewN ?_ _) | (with_reducible refine Kd.C_drew ?_)))); (case aB => exact (by repeat (first | (with_reducible first | exact HB.out | apply below_alloc | apply pw_below_drewN | apply below_drew1) | exact HB.out))); (case aF => exact (fun _ _ => trivial)); (case aO => exact (by (with_reducible repeat (first | apply Kd.R_alloc | apply Kd.R_drewN | apply Kd.R_drew)); exact HO1.out)); (case aS => exact (below_size (by repeat (first | (with_reducible first | exact HB.out | apply below_alloc | apply pw_below_drewN | apply below_drew1) | exact HB.out)))); (case aL => simp only [List.length_nil]; omega); intro v2 w2 ho hb hg hat; have n0_ := Aside0.mk (hb); have n1_ := Aside0.mk (ho); clear HB; clear HO1; have HB := n0_; have HO2 := n1_; clear n0_ n1_; clear ho hb hg hat))
  obtain ⟨A1, c1, e1, hc1, hC1⟩ := Kd.R_reads HO2.out
  subst e1
  rw [List.nil_append] at hc1 hC1 ⊢
  have HC1 := Aside0.mk hC1
  clear hC1 HO2
  refine (newReader_calls A1 c1 lb _ HC1.out hc1).mono ?_
  rintro e w3 ⟨g, rfl, hI, hb, hg⟩
  have HI := Aside0.mk hI
  have HG := Aside0.mk hg
  have HB3 := Aside0.mk (below_step (by repeat (first | (with_reducible first | exact HB.out | apply below_alloc | apply pw_below_drewN | apply below_drew1) | exact HB.out)) hb)
  have HGW := Aside0.mk (Nat.le_trans ((by repeat (first | (with_reducible first | exact HB.out | apply below_alloc | apply pw_below_drewN | apply below_drew1) | exact HB.out)) : Below w.heap.size w _).size hg)
  clear HB HC1 hI hb hg hc1
  have HB := HB3
  clear HB3
  have HLN := Aside0.mk (takeQ_lens lb HBZ0.out)
  have HSM := Aside0.mk (refQ_same lb false HBZ0.out)
  obtain ⟨⟨x, c, l', b'⟩, hx⟩ : ∃ q, takeQ lb false = q := ⟨_, rfl⟩
  rw [hx] at HLN HSM
  have HX := Aside0.mk hx
  clear hx
  go_wp2_with fail
  refine (takeQ_calls _ w3 g lb false HI.out HBZ0.out (fun k hk => by have := HI.out.lt; have := HG.out; have hk' : k < w2.heap.size := hk; omega) _ HX.out).mono ?_
  rintro e w4 ⟨v2, rfl, hS, hL⟩
  have HSW := Aside0.mk (show w2.heap.size ≤ w4.heap.size by have := HI.out.lt; have := HG.out; have := hL.keep.1; omega)
  have HB4 := Aside0.mk (HB.out.trans (hL.below.mono HGW.out))
  have HS4 := Aside0.mk (Kd.S_lower hS HB.out.size)
  have HI4 := Aside0.mk hL.rd
  clear HB HI hS hL
  obtain ⟨A2, c2, e2⟩ := Kd.S_slice HS4.out
  subst e2
  go_upto_region 8 with (first | ((with_reducible refine gate_dst (N := 5) rfl ?_); (try (refine gate_guard (by rfl) ?_; dsimp only)); refine box_event ?hg (N := 5) ?hd (cs := #[.slice none 0 0]) (t := 25) ?hr ?_; (case hd => rfl); (case hg => rfl); (case hr => first | (go_simp; done) | (go_simp; rfl)); intro B hg_ w5 hbox_ hb_; have HBX := Aside0.mk hbox_; have HBN := Aside0.mk hg_; have HBB := Aside0.mk hb_; clear hbox_ hg_ hb_; have hq0 := blk_cell HBX.out 0; have hf0 := blk_frozen HBX.out 0))
  have HWB := Aside0.mk (show w.heap.size ≤ B by rw [HBN.out]; exact HB4.out.size)
  have HGB := Aside0.mk (show g ≠ B ∧ ¬ B < w2.heap.size by have h1 := HI4.out.lt; have h2 := HSW.out; have h3 := HBN.out; omega)
  have HS5 := Aside0.mk (S_set (Kd.S_below HS4.out HBB.out) HBX.out (by decide) 0 (.slice A2 x.length c2))
  have HX5 := Aside0.mk (blk_put (cs' := #[.slice A2 x.length c2]) HBX.out 0 (.slice A2 x.length c2) rfl)
  have HI5 := Aside0.mk ((HI4.out.below HBB.out).kept ((KeepBut.refl _ B none).set_ 0 (.slice A2 x.length c2)) HGB.out.1 HGB.out.2)
  have HB5 := Aside0.mk ((below_step HB4.out HBB.out).setCell (p := ⟨B, 0, none⟩) HWB.out (.slice A2 x.length c2))
  clear HS4 HI4 HB4 HBX HBB hq0 hf0
  generalize w5.setCell ⟨B, 0, none⟩ (.slice A2 x.length c2) = w6 at HS5 HX5 HI5 HB5 ⊢
  have HB := HB5
  clear HB5
  have HLB := Aside0.mk (Kd.C_below HLB0.out HB.out)
  have HL := Aside0.mk (Below.refl w6.heap.size w6)
  have hu50 := Try.underlying50
  go_upto_region 9 with (first
    | ((with_reducible refine gate_dst (N := 33) rfl ?_); refine Kd.R_lit (Kd.int .u8) (w0 := w6) w6.heap.size 5 ?hg (N := 33) ?hd (xs := []) (inner := []) (ok := fun _ => True) (okp := fun _ => True) ?hr ?hp (fun _ hk => hk) trivial ?hB ?hS (by simp) ?_; (case hd => rfl); (case hg => rfl); (case hr => first | (go_simp; done) | (go_simp; rfl)); (case hp => exact (Reps.none _ _)); (case hB => exact (by repeat (first | (with_reducible first | exact HL.out | apply below_alloc | apply pw_below_drewN | apply below_drew1) | exact HL.out))); (case hS => exact (below_size (by repeat (first | (with_reducible first | exact HL.out | apply below_alloc | apply pw_below_drewN | apply below_drew1) | exact HL.out)))); intro v7 w7 ho hb hg hat; have n0_ := Aside0.mk (hb); have n1_ := Aside0.mk (ho); clear HL; have HL := n0_; have HO7 := n1_; clear n0_ n1_; clear ho hb hg hat)
    | ((with_reducible refine gate_builtin (b := .append) (xs := #[.tmp 33, .tmp 34]) rfl ?_); at_builtin; refine Kd.R_append_rows (Kd.int .u8) (w0 := w6) w6.heap.size rfl (.tmp 33) (.tmp 34) 22 5 (.int .u8 0) 1 rfl Try.underlying22 info_u8 rfl (by decide) (by omega) v7 [] lb _ _ _ (fun _ => True) (fun _ => False) rfl rfl ?aO ?aR (fun _ _ h => h) (fun _ h => h.elim) ?aF ?aB ?aS ?aL ?_; (case aR => exact (by repeat (first | exact (Kd.C_below HLB.out HL.out) | (with_reducible refine Kd.C_alloc ?_ _) | (with_reducible refine Kd.C_drewN ?_ _) | (with_reducible refine Kd.C_drew ?_)))); (case aB => exact (by repeat (first | (with_reducible first | exact HL.out | apply below_alloc | apply pw_below_drewN | apply below_drew1) | exact HL.out))); (case aF => exact (fun _ _ => trivial)); (case aO => exact (by (with_reducible repeat (first | apply Kd.R_alloc | apply Kd.R_drewN | apply Kd.R_drew)); exact HO7.out)); (case aS => exact (below_size (by repeat (first | (with_reducible first | exact HL.out | apply below_alloc | apply pw_below_drewN | apply below_drew1) | exact HL.out)))); (case aL => simp only [List.length_nil]; omega); intro v8 w8 ho hb hg hat; have n0_ := Aside0.mk (hb); have n1_ := Aside0.mk (ho); clear HL; clear HO7; have HL := n0_; have HO8 := n1_; clear n0_ n1_; clear ho hb hg hat; obtain ⟨A4, c4, e4, hc4, hC4⟩ := Kd.R_reads HO8.out; subst e4; have HC4 := Aside0.mk (by rw [List.nil_append] at hC4; exact hC4 : Kd.C (Kd.int .u8) w8 A4 lb.length lb); have HK4 := Aside0.mk (by rw [List.nil_append] at hc4; exact hc4 : lb.length ≤ c4); clear hC4 hc4; try rw [List.nil_append])
    | ((with_reducible refine gate_dst (N := 37) rfl ?_); refine box_event ?hg (N := 37) ?hd (cs := #[.slice A4 lb.length c4, .bool false]) (t := 50) ?hr ?_; (case hd => rfl); (case hg => rfl); (case hr => first | (go_simp; done) | (go_simp; rfl)); intro g2 hg2 w9 hbox hb; have HBX := Aside0.mk hbox; have HG2 := Aside0.mk hg2; have HBB := Aside0.mk hb; clear hbox hb hg2))
  have HL9 := Aside0.mk (below_step ((by repeat (first | (with_reducible first | exact HL.out | apply below_alloc | apply pw_below_drewN | apply below_drew1) | exact HL.out)) : Below w6.heap.size w6 w8) HBB.out)
  have HY9 : Aside0 (Rd 50 (fun k => k < g2) w9 g2 lb false) := ⟨⟨A4, c4, HBX.out, HK4.out, Kd.C_below HC4.out HBB.out, fun ad e hn => by
    have h2 : ad.block < w8.heap.size := Kd.C_lt (e ▸ HC4.out) hn (by decide)
    have h3 : g2 = w8.heap.size := HG2.out
    show ad.block < g2
    omega, Nat.lt_irrefl g2⟩⟩
  have HS9 := Aside0.mk (Kd.S_below HS5.out HL9.out)
  have HX9 := Aside0.mk (blk_below HX5.out HL9.out)
  have HI9 := Aside0.mk (HI5.out.below HL9.out)
  have HB9 := Aside0.mk (below_then HB.out HB.out.size HL9.out)
  have HG6 := Aside0.mk (show w6.heap.size ≤ g2 by rw [HG2.out]; exact ((by repeat (first | (with_reducible first | exact HL.out | apply below_alloc | apply pw_below_drewN | apply below_drew1) | exact HL.out)) : Below w6.heap.size w6 w8).size)
  have HGA := Aside0.mk (show g ≠ g2 ∧ ¬ g2 < w2.heap.size ∧ B ≠ g2 ∧ w.heap.size ≤ g2 by
    have h1 := HI5.out.lt
    have h2 := HSW.out
    have h3 := HBN.out
    have h4 := HG6.out
    have h5 : B < w6.heap.size := blk_lt HX5.out
    have h6 := HB.out.size
    omega)
  clear HL HL9 HLB HO8 HC4 HK4 HBX HBB HS5 HX5 HI5 HB HG2
  obtain ⟨⟨xr, cr, l2, b2⟩, hxr⟩ : ∃ q, refQ lb false = q := ⟨_, rfl⟩
  have HEQ : Aside0 (c = 0 → l2 = l' ∧ b2 = b') := ⟨fun h0 => by
    have h := HSM.out.2.2 h0
    rw [hxr] at h
    exact ⟨congrArg Prod.fst h, congrArg Prod.snd h⟩⟩
  have HXR := Aside0.mk hxr
  obtain rfl : xr = x := by have h := HSM.out.1; rw [hxr] at h; exact h
  obtain rfl : cr = c := by have h := HSM.out.2.1; rw [hxr] at h; exact h
  clear hxr HSM
  go_wp2_with fail
  refine (refQ_calls _ w9 g2 lb false HY9.out HBZ0.out (fun k hk => Nat.lt_trans hk HY9.out.lt) _ HXR.out).mono ?_
  rintro e w10 ⟨v4, rfl, hS, hL⟩
  have HC10 := Aside0.mk (Kd.S_lower hS HB9.out.size)
  have HY10 := Aside0.mk hL.rd
  have HS10 : Aside0 (Kd.S k60 60 w10 w.heap.size (fun _ => True) (.slice A2 xr.length c2) xr) := ⟨by
    obtain ⟨A', c', hblk, _⟩ := HY9.out
    exact S_turnT HS9.out hblk (by decide) hL.keep⟩
  have HX10 := Aside0.mk (hL.keep.blk HX9.out HGA.out.2.2.1 (by simp))
  have HI10 := Aside0.mk (HI9.out.kept hL.keep HGA.out.1 HGA.out.2.1)
  have HB10 := Aside0.mk (HB9.out.trans (hL.below.mono HGA.out.2.2.2))
  clear hS hL HY9 HS9 HX9 HI9 HB9
  obtain ⟨A5, c5, e5⟩ := Kd.S_slice HC10.out
  subst e5
  go_upto_region 10 with (first | ((with_reducible refine gate_dst (N := 8) rfl ?_); (try (refine gate_guard (by rfl) ?_; dsimp only)); refine box_event ?hg (N := 8) ?hd (cs := #[.slice none 0 0]) (t := 25) ?hr ?_; (case hd => rfl); (case hg => rfl); (case hr => first | (go_simp; done) | (go_simp; rfl)); intro C hg_ w11 hbox_ hb_; have HBX := Aside0.mk hbox_; have HBN2 := Aside0.mk hg_; have HBB := Aside0.mk hb_; clear hbox_ hg_ hb_; have hq0 := blk_cell HBX.out 0; have hf0 := blk_frozen HBX.out 0))
  have HGC := Aside0.mk (show (g ≠ C ∧ ¬ C < w2.heap.size) ∧ (g2 ≠ C ∧ ¬ C < g2) ∧ B ≠ C ∧ w.heap.size ≤ C by
    have h1 := HI10.out.lt
    have h2 := HY10.out.lt
    have h3 := HBN2.out
    have h4 := HGA.out
    have h5 := blk_lt HX10.out
    omega)
  have HC11 := Aside0.mk (S_set (Kd.S_below HC10.out HBB.out) HBX.out (by decide) 0 (.slice A5 xr.length c5))
  have HZ11 := Aside0.mk (blk_put (cs' := #[.slice A5 xr.length c5]) HBX.out 0 (.slice A5 xr.length c5) rfl)
  have HS11 := Aside0.mk (S_set (Kd.S_below HS10.out HBB.out) HBX.out (by decide) 0 (.slice A5 xr.length c5))
  have HX11 := Aside0.mk (blk_far (blk_below HX10.out HBB.out) HGC.out.2.2.1 (p := ⟨C, 0, none⟩) (.slice A5 xr.length c5))
  have HI11 := Aside0.mk ((HI10.out.below HBB.out).kept ((KeepBut.refl _ C none).set_ 0 (.slice A5 xr.length c5)) HGC.out.1.1 HGC.out.1.2)
  have HY11 := Aside0.mk ((HY10.out.below HBB.out).kept ((KeepBut.refl _ C none).set_ 0 (.slice A5 xr.length c5)) HGC.out.2.1.1 HGC.out.2.1.2)
  have HB11 := Aside0.mk ((below_step HB10.out HBB.out).setCell (p := ⟨C, 0, none⟩) HGC.out.2.2.2 (.slice A5 xr.length c5))
  clear HC10 HS10 HX10 HI10 HY10 HB10 HBX HBB hq0 hf0
  generalize w11.setCell ⟨C, 0, none⟩ (.slice A5 xr.length c5) = w12 at HC11 HZ11 HS11 HX11 HI11 HY11 HB11 ⊢
  have HLB := Aside0.mk (Kd.C_below HLB0.out HB11.out)
  have HL := Aside0.mk (Below.refl w12.heap.size w12)
  have HDL := Aside0.mk (takeDs_lens lb)
  obtain ⟨⟨m, r2⟩, hq⟩ : ∃ q, takeDs lb = q := ⟨_, rfl⟩
  rw [hq] at HDL
  have HQ := Aside0.mk hq
  clear hq
  go_wp2_with (first
    | ((with_reducible refine gate_dst (N := 44) rfl ?_); refine Kd.R_lit (Kd.int .u8) (w0 := w12) w12.heap.size 5 ?hg (N := 44) ?hd (xs := []) (inner := []) (ok := fun _ => True) (okp := fun _ => True) ?hr ?hp (fun _ hk => hk) trivial ?hB ?hS (by simp) ?_; (case hd => rfl); (case hg => rfl); (case hr => first | (go_simp; done) | (go_simp; rfl)); (case hp => exact (Reps.none _ _)); (case hB => exact (by repeat (first | (with_reducible first | exact HL.out | apply below_alloc | apply pw_below_drewN | apply below_drew1) | exact HL.out))); (case hS => exact (below_size (by repeat (first | (with_reducible first | exact HL.out | apply below_alloc | apply pw_below_drewN | apply below_drew1) | exact HL.out)))); intro v13 w13 ho hb hg hat; have n0_ := Aside0.mk (hb); have n1_ := Aside0.mk (ho); clear HL; have HL := n0_; have HO13 := n1_; clear n0_ n1_; clear ho hb hg hat)
    | ((with_reducible refine gate_builtin (b := .append) (xs := #[.tmp 44, .tmp 45]) rfl ?_); at_builtin; refine Kd.R_append_rows (Kd.int .u8) (w0 := w12) w12.heap.size rfl (.tmp 44) (.tmp 45) 22 5 (.int .u8 0) 1 rfl Try.underlying22 info_u8 rfl (by decide) (by omega) v13 [] lb _ _ _ (fun _ => True) (fun _ => False) rfl rfl ?aO ?aR (fun _ _ h => h) (fun _ h => h.elim) ?aF ?aB ?aS ?aL ?_; (case aR => exact (by repeat (first | exact (Kd.C_below HLB.out HL.out) | (with_reducible refine Kd.C_alloc ?_ _) | (with_reducible refine Kd.C_drewN ?_ _) | (with_reducible refine Kd.C_drew ?_)))); (case aB => exact (by repeat (first | (with_reducible first | exact HL.out | apply below_alloc | apply pw_below_drewN | apply below_drew1) | exact HL.out))); (case aF => exact (fun _ _ => trivial)); (case aO => exact (by (with_reducible repeat (first | apply Kd.R_alloc | apply Kd.R_drewN | apply Kd.R_drew)); exact HO13.out)); (case aS => exact (below_size (by repeat (first | (with_reducible first | exact HL.out | apply below_alloc | apply pw_below_drewN | apply below_drew1) | exact HL.out)))); (case aL => simp only [List.length_nil]; omega); intro v14 w14 ho hb hg hat; have n0_ := Aside0.mk (hb); have n1_ := Aside0.mk (ho); clear HL; clear HO13; have HL := n0_; have HO14 := n1_; clear n0_ n1_; clear ho hb hg hat; obtain ⟨A7, c7, e7, hc7, hC7⟩ := Kd.R_reads HO14.out; subst e7; have HC7 := Aside0.mk (by rw [List.nil_append] at hC7; exact hC7 : Kd.C (Kd.int .u8) w14 A7 lb.length lb); have HK7 := Aside0.mk (by rw [List.nil_append] at hc7; exact hc7 : lb.length ≤ c7); clear hC7 hc7; try rw [List.nil_append]))
  refine (takeDs_calls A7 c7 lb _ HC7.out HK7.out HBZ0.out m r2 HQ.out).mono ?_
  rintro e w15 ⟨vm, rfl, hS, hb⟩
  have HL15 := Aside0.mk (below_step ((by repeat (first | (with_reducible first | exact HL.out | apply below_alloc | apply pw_below_drewN | apply below_drew1) | exact HL.out)) : Below w12.heap.size w12 _) hb)
  have HS1 := Aside0.mk hS
  have n1_ := Aside0.mk (Kd.S_below HS11.out HL15.out)
  have n1b_ := Aside0.mk (blk_below HX11.out HL15.out)
  have n2_ := Aside0.mk (Kd.S_below HC11.out HL15.out)
  have n2b_ := Aside0.mk (blk_below HZ11.out HL15.out)
  have n3_ := Aside0.mk (HI11.out.below HL15.out)
  have n4_ := Aside0.mk (HY11.out.below HL15.out)
  have n5_ := Aside0.mk (below_then HB11.out HB11.out.size HL15.out)
  clear HL HL15 HLB HO14 HC7 HK7 hS hb HS11 HX11 HC11 HZ11 HI11 HY11 HB11
  obtain ⟨Am, cm, em⟩ := Kd.S_slice HS1.out
  subst em
  have HLB := Aside0.mk (Kd.C_below HLB0.out n5_.out)
  go_wp2_with fail
  refine (refTakeDs_calls A0 cap0 lb w15 HLB.out hcap0 HBZ0.out (by omega) m r2 HQ.out).mono ?_
  rintro e w16 ⟨vn, rfl, hS, hb⟩
  have HS2 := Aside0.mk hS
  have HS1b := Aside0.mk (Kd.S_below HS1.out hb)
  have HSX := Aside0.mk (Kd.S_below n1_.out hb)
  have HEX := Aside0.mk (blk_below n1b_.out hb)
  have HSC := Aside0.mk (Kd.S_below n2_.out hb)
  have HEC := Aside0.mk (blk_below n2b_.out hb)
  have HI := Aside0.mk (n3_.out.below hb)
  have HY := Aside0.mk (n4_.out.below hb)
  have HB := Aside0.mk (below_step n5_.out hb)
  clear n1_ n1b_ n2_ n2b_ n3_ n4_ n5_ hS hb HS1 HLB
  obtain ⟨An, cn, en⟩ := Kd.S_slice HS2.out
  subst en
  have he0 := blk_cell HEX.out 0
  have hf0 := blk_cell HEC.out 0
  have HSG := Aside0.mk (registrarref06_SameG.calls A2 c2 xr A5 c5 xr true w16 (Kd.S_reads' HSX.out).2.2 (Kd.S_reads' HSX.out).2.1 (Kd.S_reads' HSC.out).2.2 (Kd.S_reads' HSC.out).2.1 (by rw [← eqQ_self xr]; exact if_pos ⟨by have := HLN.out.1; omega, HLN.out.2⟩))
  go_wp2_with fail
  refine HSG.out.mono ?_
  rintro e w17 ⟨rfl, hb⟩
  have HS1 := Aside0.mk (Kd.S_below HS1b.out hb)
  have HS2b := Aside0.mk (Kd.S_below HS2.out hb)
  have n3_ := Aside0.mk (HI.out.below hb)
  have n4_ := Aside0.mk (HY.out.below hb)
  have n5_ := Aside0.mk (below_step HB.out hb)
  clear he0 hf0 HS1b HS2 HEX HEC HSX HSC HSG HI HY HB hb
  have HI := n3_
  have HY := n4_
  have HB := n5_
  clear n3_ n4_ n5_
  have HSD := Aside0.mk (registrarref07_SameDefsG.calls Am cm m An cn m true w17 (Kd.S_reads' HS1.out).2.2 (Kd.S_reads' HS1.out).2.1 (Kd.S_reads' HS2b.out).2.2 (Kd.S_reads' HS2b.out).2.1 (by rw [← eqDs_self m]; exact if_pos ⟨by have := HDL.out.1; omega, HDL.out.2⟩))
  go_wp2_with fail
  refine HSD.out.mono ?_
  rintro e w18 ⟨rfl, hb⟩
  have n3_ := Aside0.mk (HI.out.below hb)
  have n4_ := Aside0.mk (HY.out.below hb)
  have n5_ := Aside0.mk (below_step HB.out hb)
  clear HI HY HB hb HS1 HS2b HSD HLN HDL
  have HI := n3_
  have HY := n4_
  have HB := n5_
  clear n3_ n4_ n5_
  go_wp2_with fail
  have RX := HI
  have HBB := HB
  clear HI HB HG
  obtain ⟨c, rfl⟩ : ∃ c', c' = cr := ⟨_, rfl⟩
  by_cases hc0 : c = 0
  · obtain ⟨rfl, rfl⟩ := HEQ.out hc0
    have hbn : (c != 0) = false := bne_eq_false_iff_eq.mpr hc0
    obtain ⟨Ay, cy, hyb, _⟩ := HY.out
    have CY0 := Aside0.mk (show w18.cell? ⟨g2, 0, none⟩ = some (.slice Ay l2.length cy) from (blk_cell hyb 0).trans rfl)
    clear hyb HEQ hc0 HY
    refine start_ (n := 32) (S := fun w' => True) (ds := []) #[false, false, false, false, false, false, false, false, false, false, false, false, false, false, false, false, false, false, false, false, false, false, false, false, false, false, false, false, false, false, false, false] (by kernel_rfl) rfl rfl trivial (fun hHeld => ?_); refine with_tabW D6.tab14 D6.bits14 (fun HT_ HW_ => ?_)
    refine inv_at [0, 1, 2, 3, 4, 5, 6, 7, 8, 9, 10, 11, 12, 13, 14, 15, 16, 17, 18, 19, 20, 21, 22, 23, 24, 25, 26, 27, 28, 29, 30, 31] (fun a0_ b a w' => a = putSel a0_ b [(0, 61, .bool true), (1, 62, .bool true), (2, 63, .bool true), (3, 64, .bool true), (4, 65, .bool true), (5, 66, .int .i64 c), (6, 67, .int .i64 c), (7, 68, .bool true), (8, 69, .bool true), (9, 70, .bool true), (10, 71, .int .i64 c), (11, 72, .bool false), (12, 73, .bool false), (13, 74, .pointer (some ⟨g, 0, none⟩)), (14, 75, .int .i64 (l2.length : Int)), (15, 76, .pointer (some ⟨g2, 0, none⟩)), (16, 77, .pointer (some ⟨g2, 0, none⟩)), (17, 78, .pointer (some ⟨g2, 0, none⟩)), (18, 79, .slice Ay l2.length cy), (19, 80, .int .i64 (l2.length : Int)), (20, 81, .bool true), (21, 82, .bool true), (22, 83, .bool true), (23, 84, .bool true), (24, 85, .bool true), (25, 86, .bool true), (26, 87, .bool true), (27, 88, .int .i64 r2), (28, 89, .int .i64 r2), (29, 90, .bool true), (30, 91, .bool true), (31, 2, .bool true)] ∧ (Below w.heap.size w w') ∧ (Rd 71 (fun k => k < w2.heap.size) w' g l2 b2) ∧ (w'.cell? ⟨g2, 0, none⟩ = some (.slice Ay l2.length cy))) HT_.out HW_.out (by kernel_rfl) (by kernel_rfl) ?_ ?_ ?_
    · exact ⟨by simp only [putSel, Bool.false_eq_true, if_false], (by repeat (first | (with_reducible first | exact HBB.out | apply below_alloc | apply pw_below_drewN | apply below_drew1) | exact HBB.out)), (by repeat (first | exact RX.out | (with_reducible first | refine Rd.drewN ?_ _ | refine Rd.drew ?_ | refine Rd.alloc ?_ _))), CY0.out⟩
    · clear HT_ HW_ hHeld
      clear CY0 HBB RX
      refine steps_cons ?_ ?_
      · intro b a w' hI_ hb_ hon hoff
        refine ⟨_, rfl, fun K hK => ?_⟩
        obtain ⟨ha, Q_HBB, Q_RX, Q_CY0⟩ := hI_
        have e3 : a.tmps[3]? = some (.bool true) := by rw [ha]; exact (putSel_off rfl).trans rfl
        replace ha := Aside0.mk ha
        have HBB := Aside0.mk Q_HBB
        have RX := Aside0.mk Q_RX
        have CY0 := Aside0.mk Q_CY0
        refine value_ (w1 := w') (v := .bool true) (by rfl) rfl ?_ ?_
        · go_simp
          (try simp only [i64_w])
          try (first | rfl | assumption)
        refine hK.out _ _ ⟨(by rw [ha.out]; exact putSel_upk 0 hb_ rfl rfl rfl), Q_HBB, Q_RX, Q_CY0⟩
      refine steps_cons ?_ ?_
      · intro b a w' hI_ hb_ hon hoff
        refine ⟨_, rfl, fun K hK => ?_⟩
        obtain ⟨ha, Q_HBB, Q_RX, Q_CY0⟩ := hI_
        have e61 : a.tmps[61]? = some (.bool true) := by rw [ha]; exact putSel_on (e := (0, 61, .bool true)) 0 rfl rfl (hon 0 (by kernel_rfl)) rfl
        replace ha := Aside0.mk ha
        have HBB := Aside0.mk Q_HBB
        have RX := Aside0.mk Q_RX
        have CY0 := Aside0.mk Q_CY0
        refine value_ (w1 := w') (v := .bool true) (by rfl) rfl ?_ ?_
        · go_simp
          (try simp only [i64_w])
          try (first | rfl | assumption)
        refine hK.out _ _ ⟨(by rw [ha.out]; exact putSel_upk 1 hb_ rfl rfl rfl), Q_HBB, Q_RX, Q_CY0⟩
      refine steps_cons ?_ ?_
      · intro b a w' hI_ hb_ hon hoff
        refine ⟨_, rfl, fun K hK => ?_⟩
        obtain ⟨ha, Q_HBB, Q_RX, Q_CY0⟩ := hI_
        have e14 : a.tmps[14]? = some (.bool true) := by rw [ha]; exact (putSel_off rfl).trans rfl
        have e62 : a.tmps[62]? = some (.bool true) := by rw [ha]; exact putSel_on (e := (1, 62, .bool true)) 1 rfl rfl (hon 1 (by kernel_rfl)) rfl
        replace ha := Aside0.mk ha
        have HBB := Aside0.mk Q_HBB
        have RX := Aside0.mk Q_RX
        have CY0 := Aside0.mk Q_CY0
        refine value_ (w1 := w') (v := .bool true) (wanted_on rfl rfl rfl (e62.trans (by first | rfl | (simp [*]; done)))) rfl ?_ ?_
        · go_simp
          (try simp only [i64_w])
          try (first | rfl | assumption)
        refine hK.out _ _ ⟨(by rw [ha.out]; exact putSel_upk 2 hb_ rfl rfl rfl), Q_HBB, Q_RX, Q_CY0⟩
      refine steps_cons ?_ ?_
      · intro b a w' hI_ hb_ hon hoff
        refine ⟨_, rfl, fun K hK => ?_⟩
        obtain ⟨ha, Q_HBB, Q_RX, Q_CY0⟩ := hI_
        have e62 : a.tmps[62]? = some (.bool true) := by rw [ha]; exact putSel_on (e := (1, 62, .bool true)) 1 rfl rfl (hon 1 (by kernel_rfl)) rfl
        have e63 : a.tmps[63]? = some (.bool true) := by rw [ha]; exact putSel_on (e := (2, 63, .bool true)) 2 rfl rfl (hon 2 (by kernel_rfl)) rfl
        replace ha := Aside0.mk ha
        have HBB := Aside0.mk Q_HBB
        have RX := Aside0.mk Q_RX
        have CY0 := Aside0.mk Q_CY0
        refine value_ (w1 := w') (v := .bool true) (by rfl) rfl ?_ ?_
        · go_simp
          (try simp only [i64_w])
          try (first | rfl | assumption)
        refine hK.out _ _ ⟨(by rw [ha.out]; exact putSel_upk 3 hb_ rfl rfl rfl), Q_HBB, Q_RX, Q_CY0⟩
      refine steps_cons ?_ ?_
      · intro b a w' hI_ hb_ hon hoff
        refine ⟨_, rfl, fun K hK => ?_⟩
        obtain ⟨ha, Q_HBB, Q_RX, Q_CY0⟩ := hI_
        have e64 : a.tmps[64]? = some (.bool true) := by rw [ha]; exact putSel_on (e := (3, 64, .bool true)) 3 rfl rfl (hon 3 (by kernel_rfl)) rfl
        replace ha := Aside0.mk ha
        have HBB := Aside0.mk Q_HBB
        have RX := Aside0.mk Q_RX
        have CY0 := Aside0.mk Q_CY0
        refine value_ (w1 := w') (v := .bool true) (by rfl) rfl ?_ ?_
        · go_simp
          (try simp only [i64_w])
          try (first | rfl | assumption)
        refine hK.out _ _ ⟨(by rw [ha.out]; exact putSel_upk 4 hb_ rfl rfl rfl), Q_HBB, Q_RX, Q_CY0⟩
      refine steps_cons ?_ ?_
      · intro b a w' hI_ hb_ hon hoff
        refine ⟨_, rfl, fun K hK => ?_⟩
        obtain ⟨ha, Q_HBB, Q_RX, Q_CY0⟩ := hI_
        have e6 : a.tmps[6]? = some (.int .i64 c) := by rw [ha]; exact (putSel_off rfl).trans rfl
        have e65 : a.tmps[65]? = some (.bool true) := by rw [ha]; exact putSel_on (e := (4, 65, .bool true)) 4 rfl rfl (hon 4 (by kernel_rfl)) rfl
        replace ha := Aside0.mk ha
        have HBB := Aside0.mk Q_HBB
        have RX := Aside0.mk Q_RX
        have CY0 := Aside0.mk Q_CY0
        refine value_ (w1 := w') (v := .int .i64 c) (wanted_on rfl rfl rfl (e65.trans (by first | rfl | (simp [*]; done)))) rfl ?_ ?_
        · go_simp
          (try simp only [i64_w])
          try (first | rfl | assumption)
        refine hK.out _ _ ⟨(by rw [ha.out]; exact putSel_upk 5 hb_ rfl rfl rfl), Q_HBB, Q_RX, Q_CY0⟩
      refine steps_cons ?_ ?_
      · intro b a w' hI_ hb_ hon hoff
        refine ⟨_, rfl, fun K hK => ?_⟩
        obtain ⟨ha, Q_HBB, Q_RX, Q_CY0⟩ := hI_
        have e9 : a.tmps[9]? = some (.int .i64 c) := by rw [ha]; exact (putSel_off rfl).trans rfl
        have e65 : a.tmps[65]? = some (.bool true) := by rw [ha]; exact putSel_on (e := (4, 65, .bool true)) 4 rfl rfl (hon 4 (by kernel_rfl)) rfl
        replace ha := Aside0.mk ha
        have HBB := Aside0.mk Q_HBB
        have RX := Aside0.mk Q_RX
        have CY0 := Aside0.mk Q_CY0
        refine value_ (w1 := w') (v := .int .i64 c) (wanted_on rfl rfl rfl (e65.trans (by first | rfl | (simp [*]; done)))) rfl ?_ ?_
        · go_simp
          (try simp only [i64_w])
          try (first | rfl | assumption)
        refine hK.out _ _ ⟨(by rw [ha.out]; exact putSel_upk 6 hb_ rfl rfl rfl), Q_HBB, Q_RX, Q_CY0⟩
      refine steps_cons ?_ ?_
      · intro b a w' hI_ hb_ hon hoff
        refine ⟨_, rfl, fun K hK => ?_⟩
        obtain ⟨ha, Q_HBB, Q_RX, Q_CY0⟩ := hI_
        have e66 : a.tmps[66]? = some (.int .i64 c) := by rw [ha]; exact putSel_on (e := (5, 66, .int .i64 c)) 5 rfl rfl (hon 5 (by kernel_rfl)) rfl
        have e67 : a.tmps[67]? = some (.int .i64 c) := by rw [ha]; exact putSel_on (e := (6, 67, .int .i64 c)) 6 rfl rfl (hon 6 (by kernel_rfl)) rfl
        have e65 : a.tmps[65]? = some (.bool true) := by rw [ha]; exact putSel_on (e := (4, 65, .bool true)) 4 rfl rfl (hon 4 (by kernel_rfl)) rfl
        replace ha := Aside0.mk ha
        have HBB := Aside0.mk Q_HBB
        have RX := Aside0.mk Q_RX
        have CY0 := Aside0.mk Q_CY0
        refine value_ (w1 := w') (v := .bool true) (wanted_on rfl rfl rfl (e65.trans (by first | rfl | (simp [*]; done)))) rfl ?_ ?_
        · go_simp
          (try simp only [i64_w])
          try (first | rfl | assumption)
        refine hK.out _ _ ⟨(by rw [ha.out]; exact putSel_upk 7 hb_ rfl rfl rfl), Q_HBB, Q_RX, Q_CY0⟩
      refine steps_cons ?_ ?_
      · intro b a w' hI_ hb_ hon hoff
        refine ⟨_, rfl, fun K hK => ?_⟩
        obtain ⟨ha, Q_HBB, Q_RX, Q_CY0⟩ := hI_
        have e65 : a.tmps[65]? = some (.bool true) := by rw [ha]; exact putSel_on (e := (4, 65, .bool true)) 4 rfl rfl (hon 4 (by kernel_rfl)) rfl
        have e68 : a.tmps[68]? = some (.bool true) := by rw [ha]; exact putSel_on (e := (7, 68, .bool true)) 7 rfl rfl (hon 7 (by kernel_rfl)) rfl
        replace ha := Aside0.mk ha
        have HBB := Aside0.mk Q_HBB
        have RX := Aside0.mk Q_RX
        have CY0 := Aside0.mk Q_CY0
        refine value_ (w1 := w') (v := .bool true) (by rfl) rfl ?_ ?_
        · go_simp
          (try simp only [i64_w])
          try (first | rfl | assumption)
        refine hK.out _ _ ⟨(by rw [ha.out]; exact putSel_upk 8 hb_ rfl rfl rfl), Q_HBB, Q_RX, Q_CY0⟩
      refine steps_cons ?_ ?_
      · intro b a w' hI_ hb_ hon hoff
        refine ⟨_, rfl, fun K hK => ?_⟩
        obtain ⟨ha, Q_HBB, Q_RX, Q_CY0⟩ := hI_
        have e69 : a.tmps[69]? = some (.bool true) := by rw [ha]; exact putSel_on (e := (8, 69, .bool true)) 8 rfl rfl (hon 8 (by kernel_rfl)) rfl
        replace ha := Aside0.mk ha
        have HBB := Aside0.mk Q_HBB
        have RX := Aside0.mk Q_RX
        have CY0 := Aside0.mk Q_CY0
        refine value_ (w1 := w') (v := .bool true) (by rfl) rfl ?_ ?_
        · go_simp
          (try simp only [i64_w])
          try (first | rfl | assumption)
        refine hK.out _ _ ⟨(by rw [ha.out]; exact putSel_upk 9 hb_ rfl rfl rfl), Q_HBB, Q_RX, Q_CY0⟩
      refine steps_cons ?_ ?_
      · intro b a w' hI_ hb_ hon hoff
        refine ⟨_, rfl, fun K hK => ?_⟩
        obtain ⟨ha, Q_HBB, Q_RX, Q_CY0⟩ := hI_
        have e6 : a.tmps[6]? = some (.int .i64 c) := by rw [ha]; exact (putSel_off rfl).trans rfl
        have e70 : a.tmps[70]? = some (.bool true) := by rw [ha]; exact putSel_on (e := (9, 70, .bool true)) 9 rfl rfl (hon 9 (by kernel_rfl)) rfl
        replace ha := Aside0.mk ha
        have HBB := Aside0.mk Q_HBB
        have RX := Aside0.mk Q_RX
        have CY0 := Aside0.mk Q_CY0
        refine value_ (w1 := w') (v := .int .i64 c) (wanted_on rfl rfl rfl (e70.trans (by first | rfl | (simp [*]; done)))) rfl ?_ ?_
        · go_simp
          (try simp only [i64_w])
          try (first | rfl | assumption)
        refine hK.out _ _ ⟨(by rw [ha.out]; exact putSel_upk 10 hb_ rfl rfl rfl), Q_HBB, Q_RX, Q_CY0⟩
      refine steps_cons ?_ ?_
      · intro b a w' hI_ hb_ hon hoff
        refine ⟨_, rfl, fun K hK => ?_⟩
        obtain ⟨ha, Q_HBB, Q_RX, Q_CY0⟩ := hI_
        have e71 : a.tmps[71]? = some (.int .i64 c) := by rw [ha]; exact putSel_on (e := (10, 71, .int .i64 c)) 10 rfl rfl (hon 10 (by kernel_rfl)) rfl
        have e70 : a.tmps[70]? = some (.bool true) := by rw [ha]; exact putSel_on (e := (9, 70, .bool true)) 9 rfl rfl (hon 9 (by kernel_rfl)) rfl
        replace ha := Aside0.mk ha
        have HBB := Aside0.mk Q_HBB
        have RX := Aside0.mk Q_RX
        have CY0 := Aside0.mk Q_CY0
        refine value_ (w1 := w') (v := .bool false) (wanted_on rfl rfl rfl (e70.trans (by first | rfl | (simp [*]; done)))) rfl ?_ ?_
        · go_simp
          (try simp only [i64_w])
          try (first | rfl | assumption)
        refine hK.out _ _ ⟨(by rw [ha.out]; exact putSel_upk 11 hb_ rfl rfl rfl), Q_HBB, Q_RX, Q_CY0⟩
      refine steps_cons ?_ ?_
      · intro b a w' hI_ hb_ hon hoff
        refine ⟨_, rfl, fun K hK => ?_⟩
        obtain ⟨ha, Q_HBB, Q_RX, Q_CY0⟩ := hI_
        have e72 : a.tmps[72]? = some (.bool false) := by rw [ha]; exact putSel_on (e := (11, 72, .bool false)) 11 rfl rfl (hon 11 (by kernel_rfl)) rfl
        have e70 : a.tmps[70]? = some (.bool true) := by rw [ha]; exact putSel_on (e := (9, 70, .bool true)) 9 rfl rfl (hon 9 (by kernel_rfl)) rfl
        replace ha := Aside0.mk ha
        have HBB := Aside0.mk Q_HBB
        have RX := Aside0.mk Q_RX
        have CY0 := Aside0.mk Q_CY0
        refine value_ (w1 := w') (v := .bool false) (wanted_on rfl rfl rfl (e70.trans (by first | rfl | (simp [*]; done)))) rfl ?_ ?_
        · go_simp
          (try simp only [i64_w])
          try (first | rfl | assumption)
        refine hK.out _ _ ⟨(by rw [ha.out]; exact putSel_upk 12 hb_ rfl rfl rfl), Q_HBB, Q_RX, Q_CY0⟩
      refine steps_cons ?_ ?_
      · intro b a w' hI_ hb_ hon hoff
        refine ⟨_, rfl, fun K hK => ?_⟩
        obtain ⟨ha, Q_HBB, Q_RX, Q_CY0⟩ := hI_
        have e4 : a.tmps[4]? = some (.pointer (some ⟨g, 0, none⟩)) := by rw [ha]; exact (putSel_off rfl).trans rfl
        have e73 : a.tmps[73]? = some (.bool false) := by rw [ha]; exact putSel_on (e := (12, 73, .bool false)) 12 rfl rfl (hon 12 (by kernel_rfl)) rfl
        replace ha := Aside0.mk ha
        have HBB := Aside0.mk Q_HBB
        have RX := Aside0.mk Q_RX
        have CY0 := Aside0.mk Q_CY0
        refine value_ (w1 := w') (v := .pointer (some ⟨g, 0, none⟩)) (wanted_on rfl rfl rfl (e73.trans (by first | rfl | (simp [*]; done)))) rfl ?_ ?_
        · go_simp
          (try simp only [i64_w])
          try (first | rfl | assumption)
        refine hK.out _ _ ⟨(by rw [ha.out]; exact putSel_upk 13 hb_ rfl rfl rfl), Q_HBB, Q_RX, Q_CY0⟩
      refine steps_cons ?_ ?_
      · intro b a w' hI_ hb_ hon hoff
        refine ⟨_, rfl, fun K hK => ?_⟩
        obtain ⟨ha, Q_HBB, Q_RX, Q_CY0⟩ := hI_
        have e74 : a.tmps[74]? = some (.pointer (some ⟨g, 0, none⟩)) := by rw [ha]; exact putSel_on (e := (13, 74, .pointer (some ⟨g, 0, none⟩))) 13 rfl rfl (hon 13 (by kernel_rfl)) rfl
        have e73 : a.tmps[73]? = some (.bool false) := by rw [ha]; exact putSel_on (e := (12, 73, .bool false)) 12 rfl rfl (hon 12 (by kernel_rfl)) rfl
        replace ha := Aside0.mk ha
        have HBB := Aside0.mk Q_HBB
        have RX := Aside0.mk Q_RX
        have CY0 := Aside0.mk Q_CY0
        refine goes_ Try.func25 (by kernel_rfl) rfl #[.pointer (some ⟨g, 0, none⟩)] (wanted_on rfl rfl rfl (e73.trans (by first | rfl | (simp [*]; done)))) rfl rfl (by first | (simp only [List.map_toArray, List.map_cons, List.map_nil, Act.eval, Array.getD_eq_getD_getElem?, Option.getD_some, e74, e73]; done) | (simp only [List.map_toArray, List.map_cons, List.map_nil, Act.eval, Array.getD_eq_getD_getElem?, Option.getD_some, e74, e73]; rfl)) ?_
        with_reducible refine (left_calls _ _ g l2 b2 RX.out).mono ?_
        rintro e w3 ⟨rfl, rfl⟩
        refine ⟨_, rfl, ?_⟩
        refine hK.out _ _ ⟨(by rw [ha.out]; exact putSel_upk 14 hb_ rfl rfl rfl), HBB.out, RX.out, CY0.out⟩
      refine steps_cons ?_ ?_
      · intro b a w' hI_ hb_ hon hoff
        refine ⟨_, rfl, fun K hK => ?_⟩
        obtain ⟨ha, Q_HBB, Q_RX, Q_CY0⟩ := hI_
        have e7 : a.tmps[7]? = some (.pointer (some ⟨g2, 0, none⟩)) := by rw [ha]; exact (putSel_off rfl).trans rfl
        have e73 : a.tmps[73]? = some (.bool false) := by rw [ha]; exact putSel_on (e := (12, 73, .bool false)) 12 rfl rfl (hon 12 (by kernel_rfl)) rfl
        replace ha := Aside0.mk ha
        have HBB := Aside0.mk Q_HBB
        have RX := Aside0.mk Q_RX
        have CY0 := Aside0.mk Q_CY0
        refine value_ (w1 := w') (v := .pointer (some ⟨g2, 0, none⟩)) (wanted_on rfl rfl rfl (e73.trans (by first | rfl | (simp [*]; done)))) rfl ?_ ?_
        · go_simp
          (try simp only [i64_w])
          try (first | rfl | assumption)
        refine hK.out _ _ ⟨(by rw [ha.out]; exact putSel_upk 15 hb_ rfl rfl rfl), Q_HBB, Q_RX, Q_CY0⟩
      refine steps_cons ?_ ?_
      · intro b a w' hI_ hb_ hon hoff
        refine ⟨_, rfl, fun K hK => ?_⟩
        obtain ⟨ha, Q_HBB, Q_RX, Q_CY0⟩ := hI_
        have e76 : a.tmps[76]? = some (.pointer (some ⟨g2, 0, none⟩)) := by rw [ha]; exact putSel_on (e := (15, 76, .pointer (some ⟨g2, 0, none⟩))) 15 rfl rfl (hon 15 (by kernel_rfl)) rfl
        have e73 : a.tmps[73]? = some (.bool false) := by rw [ha]; exact putSel_on (e := (12, 73, .bool false)) 12 rfl rfl (hon 12 (by kernel_rfl)) rfl
        replace ha := Aside0.mk ha
        have HBB := Aside0.mk Q_HBB
        have RX := Aside0.mk Q_RX
        have CY0 := Aside0.mk Q_CY0
        refine value_ (w1 := w') (v := .pointer (some ⟨g2, 0, none⟩)) (wanted_on rfl rfl rfl (e73.trans (by first | rfl | (simp [*]; done)))) rfl ?_ ?_
        · go_simp
          (try simp only [i64_w])
          try (first | rfl | assumption)
        refine hK.out _ _ ⟨(by rw [ha.out]; exact putSel_upk 16 hb_ rfl rfl rfl), Q_HBB, Q_RX, Q_CY0⟩
      refine steps_cons ?_ ?_
      · intro b a w' hI_ hb_ hon hoff
        refine ⟨_, rfl, fun K hK => ?_⟩
        obtain ⟨ha, Q_HBB, Q_RX, Q_CY0⟩ := hI_
        have e77 : a.tmps[77]? = some (.pointer (some ⟨g2, 0, none⟩)) := by rw [ha]; exact putSel_on (e := (16, 77, .pointer (some ⟨g2, 0, none⟩))) 16 rfl rfl (hon 16 (by kernel_rfl)) rfl
        have e73 : a.tmps[73]? = some (.bool false) := by rw [ha]; exact putSel_on (e := (12, 73, .bool false)) 12 rfl rfl (hon 12 (by kernel_rfl)) rfl
        replace ha := Aside0.mk ha
        have HBB := Aside0.mk Q_HBB
        have RX := Aside0.mk Q_RX
        have CY0 := Aside0.mk Q_CY0
        refine value_ (w1 := w') (v := .pointer (some ⟨g2, 0, none⟩)) (wanted_on rfl rfl rfl (e73.trans (by first | rfl | (simp [*]; done)))) rfl ?_ ?_
        · go_simp
          (try simp only [i64_w])
          try (first | rfl | assumption)
        refine hK.out _ _ ⟨(by rw [ha.out]; exact putSel_upk 17 hb_ rfl rfl rfl), Q_HBB, Q_RX, Q_CY0⟩
      refine steps_cons ?_ ?_
      · intro b a w' hI_ hb_ hon hoff
        refine ⟨_, rfl, fun K hK => ?_⟩
        obtain ⟨ha, Q_HBB, Q_RX, Q_CY0⟩ := hI_
        have e78 : a.tmps[78]? = some (.pointer (some ⟨g2, 0, none⟩)) := by rw [ha]; exact putSel_on (e := (17, 78, .pointer (some ⟨g2, 0, none⟩))) 17 rfl rfl (hon 17 (by kernel_rfl)) rfl
        have e73 : a.tmps[73]? = some (.bool false) := by rw [ha]; exact putSel_on (e := (12, 73, .bool false)) 12 rfl rfl (hon 12 (by kernel_rfl)) rfl
        replace ha := Aside0.mk ha
        have HBB := Aside0.mk Q_HBB
        have RX := Aside0.mk Q_RX
        have CY0 := Aside0.mk Q_CY0
        have hcell := CY0.out
        refine value_ (w1 := w') (v := .slice Ay l2.length cy) (wanted_on rfl rfl rfl (e73.trans (by first | rfl | (simp [*]; done)))) rfl ?_ ?_
        · go_simp
          (try simp only [i64_w])
          try (first | rfl | assumption)
        refine hK.out _ _ ⟨(by rw [ha.out]; exact putSel_upk 18 hb_ rfl rfl rfl), Q_HBB, Q_RX, Q_CY0⟩
      refine steps_cons ?_ ?_
      · intro b a w' hI_ hb_ hon hoff
        refine ⟨_, rfl, fun K hK => ?_⟩
        obtain ⟨ha, Q_HBB, Q_RX, Q_CY0⟩ := hI_
        have e79 : a.tmps[79]? = some (.slice Ay l2.length cy) := by rw [ha]; exact putSel_on (e := (18, 79, .slice Ay l2.length cy)) 18 rfl rfl (hon 18 (by kernel_rfl)) rfl
        have e73 : a.tmps[73]? = some (.bool false) := by rw [ha]; exact putSel_on (e := (12, 73, .bool false)) 12 rfl rfl (hon 12 (by kernel_rfl)) rfl
        replace ha := Aside0.mk ha
        have HBB := Aside0.mk Q_HBB
        have RX := Aside0.mk Q_RX
        have CY0 := Aside0.mk Q_CY0
        refine value_ (w1 := w') (v := .int .i64 (l2.length : Int)) (wanted_on rfl rfl rfl (e73.trans (by first | rfl | (simp [*]; done)))) rfl ?_ ?_
        · go_simp
          (try simp only [i64_w])
          try (first | rfl | assumption)
        refine hK.out _ _ ⟨(by rw [ha.out]; exact putSel_upk 19 hb_ rfl rfl rfl), Q_HBB, Q_RX, Q_CY0⟩
      refine steps_cons ?_ ?_
      · intro b a w' hI_ hb_ hon hoff
        refine ⟨_, rfl, fun K hK => ?_⟩
        obtain ⟨ha, Q_HBB, Q_RX, Q_CY0⟩ := hI_
        have e75 : a.tmps[75]? = some (.int .i64 (l2.length : Int)) := by rw [ha]; exact putSel_on (e := (14, 75, .int .i64 (l2.length : Int))) 14 rfl rfl (hon 14 (by kernel_rfl)) rfl
        have e80 : a.tmps[80]? = some (.int .i64 (l2.length : Int)) := by rw [ha]; exact putSel_on (e := (19, 80, .int .i64 (l2.length : Int))) 19 rfl rfl (hon 19 (by kernel_rfl)) rfl
        have e73 : a.tmps[73]? = some (.bool false) := by rw [ha]; exact putSel_on (e := (12, 73, .bool false)) 12 rfl rfl (hon 12 (by kernel_rfl)) rfl
        replace ha := Aside0.mk ha
        have HBB := Aside0.mk Q_HBB
        have RX := Aside0.mk Q_RX
        have CY0 := Aside0.mk Q_CY0
        refine value_ (w1 := w') (v := .bool true) (wanted_on rfl rfl rfl (e73.trans (by first | rfl | (simp [*]; done)))) rfl ?_ ?_
        · go_simp
          (try simp only [i64_w])
          try (first | rfl | assumption)
        refine hK.out _ _ ⟨(by rw [ha.out]; exact putSel_upk 20 hb_ rfl rfl rfl), Q_HBB, Q_RX, Q_CY0⟩
      refine steps_cons ?_ ?_
      · intro b a w' hI_ hb_ hon hoff
        refine ⟨_, rfl, fun K hK => ?_⟩
        obtain ⟨ha, Q_HBB, Q_RX, Q_CY0⟩ := hI_
        have e73 : a.tmps[73]? = some (.bool false) := by rw [ha]; exact putSel_on (e := (12, 73, .bool false)) 12 rfl rfl (hon 12 (by kernel_rfl)) rfl
        have e81 : a.tmps[81]? = some (.bool true) := by rw [ha]; exact putSel_on (e := (20, 81, .bool true)) 20 rfl rfl (hon 20 (by kernel_rfl)) rfl
        have e70 : a.tmps[70]? = some (.bool true) := by rw [ha]; exact putSel_on (e := (9, 70, .bool true)) 9 rfl rfl (hon 9 (by kernel_rfl)) rfl
        replace ha := Aside0.mk ha
        have HBB := Aside0.mk Q_HBB
        have RX := Aside0.mk Q_RX
        have CY0 := Aside0.mk Q_CY0
        refine value_ (w1 := w') (v := .bool true) (wanted_on rfl rfl rfl (e70.trans (by first | rfl | (simp [*]; done)))) rfl ?_ ?_
        · go_simp
          (try simp only [i64_w])
          try (first | rfl | assumption)
        refine hK.out _ _ ⟨(by rw [ha.out]; exact putSel_upk 21 hb_ rfl rfl rfl), Q_HBB, Q_RX, Q_CY0⟩
      refine steps_cons ?_ ?_
      · intro b a w' hI_ hb_ hon hoff
        refine ⟨_, rfl, fun K hK => ?_⟩
        obtain ⟨ha, Q_HBB, Q_RX, Q_CY0⟩ := hI_
        have e70 : a.tmps[70]? = some (.bool true) := by rw [ha]; exact putSel_on (e := (9, 70, .bool true)) 9 rfl rfl (hon 9 (by kernel_rfl)) rfl
        have e82 : a.tmps[82]? = some (.bool true) := by rw [ha]; exact putSel_on (e := (21, 82, .bool true)) 21 rfl rfl (hon 21 (by kernel_rfl)) rfl
        replace ha := Aside0.mk ha
        have HBB := Aside0.mk Q_HBB
        have RX := Aside0.mk Q_RX
        have CY0 := Aside0.mk Q_CY0
        refine value_ (w1 := w') (v := .bool true) (by rfl) rfl ?_ ?_
        · go_simp
          (try simp only [i64_w])
          try (first | rfl | assumption)
        refine hK.out _ _ ⟨(by rw [ha.out]; exact putSel_upk 22 hb_ rfl rfl rfl), Q_HBB, Q_RX, Q_CY0⟩
      refine steps_cons ?_ ?_
      · intro b a w' hI_ hb_ hon hoff
        refine ⟨_, rfl, fun K hK => ?_⟩
        obtain ⟨ha, Q_HBB, Q_RX, Q_CY0⟩ := hI_
        have e83 : a.tmps[83]? = some (.bool true) := by rw [ha]; exact putSel_on (e := (22, 83, .bool true)) 22 rfl rfl (hon 22 (by kernel_rfl)) rfl
        replace ha := Aside0.mk ha
        have HBB := Aside0.mk Q_HBB
        have RX := Aside0.mk Q_RX
        have CY0 := Aside0.mk Q_CY0
        refine value_ (w1 := w') (v := .bool true) (by rfl) rfl ?_ ?_
        · go_simp
          (try simp only [i64_w])
          try (first | rfl | assumption)
        refine hK.out _ _ ⟨(by rw [ha.out]; exact putSel_upk 23 hb_ rfl rfl rfl), Q_HBB, Q_RX, Q_CY0⟩
      refine steps_cons ?_ ?_
      · intro b a w' hI_ hb_ hon hoff
        refine ⟨_, rfl, fun K hK => ?_⟩
        obtain ⟨ha, Q_HBB, Q_RX, Q_CY0⟩ := hI_
        have e15 : a.tmps[15]? = some (.bool true) := by rw [ha]; exact (putSel_off rfl).trans rfl
        have e84 : a.tmps[84]? = some (.bool true) := by rw [ha]; exact putSel_on (e := (23, 84, .bool true)) 23 rfl rfl (hon 23 (by kernel_rfl)) rfl
        replace ha := Aside0.mk ha
        have HBB := Aside0.mk Q_HBB
        have RX := Aside0.mk Q_RX
        have CY0 := Aside0.mk Q_CY0
        refine value_ (w1 := w') (v := .bool true) (wanted_on rfl rfl rfl (e84.trans (by first | rfl | (simp [*]; done)))) rfl ?_ ?_
        · go_simp
          (try simp only [i64_w])
          try (first | rfl | assumption)
        refine hK.out _ _ ⟨(by rw [ha.out]; exact putSel_upk 24 hb_ rfl rfl rfl), Q_HBB, Q_RX, Q_CY0⟩
      refine steps_cons ?_ ?_
      · intro b a w' hI_ hb_ hon hoff
        refine ⟨_, rfl, fun K hK => ?_⟩
        obtain ⟨ha, Q_HBB, Q_RX, Q_CY0⟩ := hI_
        have e84 : a.tmps[84]? = some (.bool true) := by rw [ha]; exact putSel_on (e := (23, 84, .bool true)) 23 rfl rfl (hon 23 (by kernel_rfl)) rfl
        have e85 : a.tmps[85]? = some (.bool true) := by rw [ha]; exact putSel_on (e := (24, 85, .bool true)) 24 rfl rfl (hon 24 (by kernel_rfl)) rfl
        replace ha := Aside0.mk ha
        have HBB := Aside0.mk Q_HBB
        have RX := Aside0.mk Q_RX
        have CY0 := Aside0.mk Q_CY0
        refine value_ (w1 := w') (v := .bool true) (by rfl) rfl ?_ ?_
        · go_simp
          (try simp only [i64_w])
          try (first | rfl | assumption)
        refine hK.out _ _ ⟨(by rw [ha.out]; exact putSel_upk 25 hb_ rfl rfl rfl), Q_HBB, Q_RX, Q_CY0⟩
      refine steps_cons ?_ ?_
      · intro b a w' hI_ hb_ hon hoff
        refine ⟨_, rfl, fun K hK => ?_⟩
        obtain ⟨ha, Q_HBB, Q_RX, Q_CY0⟩ := hI_
        have e86 : a.tmps[86]? = some (.bool true) := by rw [ha]; exact putSel_on (e := (25, 86, .bool true)) 25 rfl rfl (hon 25 (by kernel_rfl)) rfl
        replace ha := Aside0.mk ha
        have HBB := Aside0.mk Q_HBB
        have RX := Aside0.mk Q_RX
        have CY0 := Aside0.mk Q_CY0
        refine value_ (w1 := w') (v := .bool true) (by rfl) rfl ?_ ?_
        · go_simp
          (try simp only [i64_w])
          try (first | rfl | assumption)
        refine hK.out _ _ ⟨(by rw [ha.out]; exact putSel_upk 26 hb_ rfl rfl rfl), Q_HBB, Q_RX, Q_CY0⟩
      refine steps_cons ?_ ?_
      · intro b a w' hI_ hb_ hon hoff
        refine ⟨_, rfl, fun K hK => ?_⟩
        obtain ⟨ha, Q_HBB, Q_RX, Q_CY0⟩ := hI_
        have e11 : a.tmps[11]? = some (.int .i64 r2) := by rw [ha]; exact (putSel_off rfl).trans rfl
        have e87 : a.tmps[87]? = some (.bool true) := by rw [ha]; exact putSel_on (e := (26, 87, .bool true)) 26 rfl rfl (hon 26 (by kernel_rfl)) rfl
        replace ha := Aside0.mk ha
        have HBB := Aside0.mk Q_HBB
        have RX := Aside0.mk Q_RX
        have CY0 := Aside0.mk Q_CY0
        refine value_ (w1 := w') (v := .int .i64 r2) (wanted_on rfl rfl rfl (e87.trans (by first | rfl | (simp [*]; done)))) rfl ?_ ?_
        · go_simp
          (try simp only [i64_w])
          try (first | rfl | assumption)
        refine hK.out _ _ ⟨(by rw [ha.out]; exact putSel_upk 27 hb_ rfl rfl rfl), Q_HBB, Q_RX, Q_CY0⟩
      refine steps_cons ?_ ?_
      · intro b a w' hI_ hb_ hon hoff
        refine ⟨_, rfl, fun K hK => ?_⟩
        obtain ⟨ha, Q_HBB, Q_RX, Q_CY0⟩ := hI_
        have e13 : a.tmps[13]? = some (.int .i64 r2) := by rw [ha]; exact (putSel_off rfl).trans rfl
        have e87 : a.tmps[87]? = some (.bool true) := by rw [ha]; exact putSel_on (e := (26, 87, .bool true)) 26 rfl rfl (hon 26 (by kernel_rfl)) rfl
        replace ha := Aside0.mk ha
        have HBB := Aside0.mk Q_HBB
        have RX := Aside0.mk Q_RX
        have CY0 := Aside0.mk Q_CY0
        refine value_ (w1 := w') (v := .int .i64 r2) (wanted_on rfl rfl rfl (e87.trans (by first | rfl | (simp [*]; done)))) rfl ?_ ?_
        · go_simp
          (try simp only [i64_w])
          try (first | rfl | assumption)
        refine hK.out _ _ ⟨(by rw [ha.out]; exact putSel_upk 28 hb_ rfl rfl rfl), Q_HBB, Q_RX, Q_CY0⟩
      refine steps_cons ?_ ?_
      · intro b a w' hI_ hb_ hon hoff
        refine ⟨_, rfl, fun K hK => ?_⟩
        obtain ⟨ha, Q_HBB, Q_RX, Q_CY0⟩ := hI_
        have e88 : a.tmps[88]? = some (.int .i64 r2) := by rw [ha]; exact putSel_on (e := (27, 88, .int .i64 r2)) 27 rfl rfl (hon 27 (by kernel_rfl)) rfl
        have e89 : a.tmps[89]? = some (.int .i64 r2) := by rw [ha]; exact putSel_on (e := (28, 89, .int .i64 r2)) 28 rfl rfl (hon 28 (by kernel_rfl)) rfl
        have e87 : a.tmps[87]? = some (.bool true) := by rw [ha]; exact putSel_on (e := (26, 87, .bool true)) 26 rfl rfl (hon 26 (by kernel_rfl)) rfl
        replace ha := Aside0.mk ha
        have HBB := Aside0.mk Q_HBB
        have RX := Aside0.mk Q_RX
        have CY0 := Aside0.mk Q_CY0
        refine value_ (w1 := w') (v := .bool true) (wanted_on rfl rfl rfl (e87.trans (by first | rfl | (simp [*]; done)))) rfl ?_ ?_
        · go_simp
          (try simp only [i64_w])
          try (first | rfl | assumption)
        refine hK.out _ _ ⟨(by rw [ha.out]; exact putSel_upk 29 hb_ rfl rfl rfl), Q_HBB, Q_RX, Q_CY0⟩
      refine steps_cons ?_ ?_
      · intro b a w' hI_ hb_ hon hoff
        refine ⟨_, rfl, fun K hK => ?_⟩
        obtain ⟨ha, Q_HBB, Q_RX, Q_CY0⟩ := hI_
        have e87 : a.tmps[87]? = some (.bool true) := by rw [ha]; exact putSel_on (e := (26, 87, .bool true)) 26 rfl rfl (hon 26 (by kernel_rfl)) rfl
        have e90 : a.tmps[90]? = some (.bool true) := by rw [ha]; exact putSel_on (e := (29, 90, .bool true)) 29 rfl rfl (hon 29 (by kernel_rfl)) rfl
        replace ha := Aside0.mk ha
        have HBB := Aside0.mk Q_HBB
        have RX := Aside0.mk Q_RX
        have CY0 := Aside0.mk Q_CY0
        refine value_ (w1 := w') (v := .bool true) (by rfl) rfl ?_ ?_
        · go_simp
          (try simp only [i64_w])
          try (first | rfl | assumption)
        refine hK.out _ _ ⟨(by rw [ha.out]; exact putSel_upk 30 hb_ rfl rfl rfl), Q_HBB, Q_RX, Q_CY0⟩
      refine steps_cons ?_ ?_
      · intro b a w' hI_ hb_ hon hoff
        refine ⟨_, rfl, fun K hK => ?_⟩
        obtain ⟨ha, Q_HBB, Q_RX, Q_CY0⟩ := hI_
        have e91 : a.tmps[91]? = some (.bool true) := by rw [ha]; exact putSel_on (e := (30, 91, .bool true)) 30 rfl rfl (hon 30 (by kernel_rfl)) rfl
        replace ha := Aside0.mk ha
        have HBB := Aside0.mk Q_HBB
        have RX := Aside0.mk Q_RX
        have CY0 := Aside0.mk Q_CY0
        refine value_ (w1 := w') (v := .bool true) (by rfl) rfl ?_ ?_
        · go_simp
          (try simp only [i64_w])
          try (first | rfl | assumption)
        refine hK.out _ _ ⟨(by rw [ha.out]; exact putSel_upk 31 hb_ rfl rfl rfl), Q_HBB, Q_RX, Q_CY0⟩
      exact steps_nil
    rintro b a wz hall ⟨ha, Q_HBB, Q_RX, Q_CY0⟩
    clear CY0 HBB RX
    have hb0_ := hall 0 (by kernel_rfl)
    have hb1_ := hall 1 (by kernel_rfl)
    have hb2_ := hall 2 (by kernel_rfl)
    have hb3_ := hall 3 (by kernel_rfl)
    have hb4_ := hall 4 (by kernel_rfl)
    have hb5_ := hall 5 (by kernel_rfl)
    have hb6_ := hall 6 (by kernel_rfl)
    have hb7_ := hall 7 (by kernel_rfl)
    have hb8_ := hall 8 (by kernel_rfl)
    have hb9_ := hall 9 (by kernel_rfl)
    have hb10_ := hall 10 (by kernel_rfl)
    have hb11_ := hall 11 (by kernel_rfl)
    have hb12_ := hall 12 (by kernel_rfl)
    have hb13_ := hall 13 (by kernel_rfl)
    have hb14_ := hall 14 (by kernel_rfl)
    have hb15_ := hall 15 (by kernel_rfl)
    have hb16_ := hall 16 (by kernel_rfl)
    have hb17_ := hall 17 (by kernel_rfl)
    have hb18_ := hall 18 (by kernel_rfl)
    have hb19_ := hall 19 (by kernel_rfl)
    have hb20_ := hall 20 (by kernel_rfl)
    have hb21_ := hall 21 (by kernel_rfl)
    have hb22_ := hall 22 (by kernel_rfl)
    have hb23_ := hall 23 (by kernel_rfl)
    have hb24_ := hall 24 (by kernel_rfl)
    have hb25_ := hall 25 (by kernel_rfl)
    have hb26_ := hall 26 (by kernel_rfl)
    have hb27_ := hall 27 (by kernel_rfl)
    have hb28_ := hall 28 (by kernel_rfl)
    have hb29_ := hall 29 (by kernel_rfl)
    have hb30_ := hall 30 (by kernel_rfl)
    have hb31_ := hall 31 (by kernel_rfl)
    subst ha
    simp only [putSel, hb0_, hb1_, hb2_, hb3_, hb4_, hb5_, hb6_, hb7_, hb8_, hb9_, hb10_, hb11_, hb12_, hb13_, hb14_, hb15_, hb16_, hb17_, hb18_, hb19_, hb20_, hb21_, hb22_, hb23_, hb24_, hb25_, hb26_, hb27_, hb28_, hb29_, hb30_, hb31_, if_true, Act.put, List.setIfInBounds_toArray, List.set_cons_zero, List.set_cons_succ]
    have HBB := Aside0.mk Q_HBB
    clear Q_HBB
    have RX := Aside0.mk Q_RX
    clear Q_RX
    have CY0 := Aside0.mk Q_CY0
    clear Q_CY0
    clear hall hb0_ hb1_ hb2_ hb3_ hb4_ hb5_ hb6_ hb7_ hb8_ hb9_ hb10_ hb11_ hb12_ hb13_ hb14_ hb15_ hb16_ hb17_ hb18_ hb19_ hb20_ hb21_ hb22_ hb23_ hb24_ hb25_ hb26_ hb27_ hb28_ hb29_ hb30_ hb31_
    go_wp2_with fail
    go_ret
    exact ⟨rfl, (by repeat (first | (with_reducible first | exact HBB.out | apply below_alloc | apply pw_below_drewN | apply below_drew1) | exact HBB.out))⟩
  · have hbn : (c != 0) = true := bne_iff_ne.mpr hc0
    clear HEQ HY
    have HC0 := Aside0.mk hc0
    clear hc0
    refine start_ (n := 32) (S := fun w' => True) (ds := []) #[false, false, false, false, false, false, false, false, false, false, false, false, false, false, false, false, false, false, false, false, false, false, false, false, false, false, false, false, false, false, false, false] (by kernel_rfl) rfl rfl trivial (fun hHeld => ?_); refine with_tabW D6.tab14 D6.bits14 (fun HT_ HW_ => ?_)
    refine inv_at [0, 1, 2, 3, 4, 5, 6, 7, 8, 9, 10, 11, 12, 13, 14, 15, 16, 17, 18, 19, 20, 21, 22, 23, 24, 25, 26, 27, 28, 29, 30, 31] (fun a0_ b a w' => a = putSel a0_ b [(0, 61, .bool true), (1, 62, .bool true), (2, 63, .bool true), (3, 64, .bool true), (4, 65, .bool true), (5, 66, .int .i64 c), (6, 67, .int .i64 c), (7, 68, .bool true), (8, 69, .bool true), (9, 70, .bool true), (10, 71, .int .i64 c), (11, 72, .bool true), (12, 73, .bool true), (13, 74, undef), (14, 75, undef), (15, 76, undef), (16, 77, undef), (17, 78, undef), (18, 79, undef), (19, 80, undef), (20, 81, undef), (21, 82, (Value.bool true)), (22, 83, (Value.bool true)), (23, 84, (Value.bool true)), (24, 85, .bool true), (25, 86, .bool true), (26, 87, .bool true), (27, 88, .int .i64 r2), (28, 89, .int .i64 r2), (29, 90, .bool true), (30, 91, .bool true), (31, 2, .bool true)] ∧ (Below w.heap.size w w')) HT_.out HW_.out (by kernel_rfl) (by kernel_rfl) ?_ ?_ ?_
    · exact ⟨by simp only [putSel, Bool.false_eq_true, if_false], (by repeat (first | (with_reducible first | exact HBB.out | apply below_alloc | apply pw_below_drewN | apply below_drew1) | exact HBB.out))⟩
    · clear HT_ HW_ hHeld
      clear HBB
      refine steps_cons ?_ ?_
      · intro b a w' hI_ hb_ hon hoff
        refine ⟨_, rfl, fun K hK => ?_⟩
        obtain ⟨ha, Q_HBB⟩ := hI_
        have e3 : a.tmps[3]? = some (.bool true) := by rw [ha]; exact (putSel_off rfl).trans rfl
        replace ha := Aside0.mk ha
        have HBB := Aside0.mk Q_HBB
        refine value_ (w1 := w') (v := .bool true) (by rfl) rfl ?_ ?_
        · go_simp
          (try simp only [i64_w])
          try (first | rfl | assumption)
        refine hK.out _ _ ⟨(by rw [ha.out]; exact putSel_upk 0 hb_ rfl rfl rfl), Q_HBB⟩
      refine steps_cons ?_ ?_
      · intro b a w' hI_ hb_ hon hoff
        refine ⟨_, rfl, fun K hK => ?_⟩
        obtain ⟨ha, Q_HBB⟩ := hI_
        have e61 : a.tmps[61]? = some (.bool true) := by rw [ha]; exact putSel_on (e := (0, 61, .bool true)) 0 rfl rfl (hon 0 (by kernel_rfl)) rfl
        replace ha := Aside0.mk ha
        have HBB := Aside0.mk Q_HBB
        refine value_ (w1 := w') (v := .bool true) (by rfl) rfl ?_ ?_
        · go_simp
          (try simp only [i64_w])
          try (first | rfl | assumption)
        refine hK.out _ _ ⟨(by rw [ha.out]; exact putSel_upk 1 hb_ rfl rfl rfl), Q_HBB⟩
      refine steps_cons ?_ ?_
      · intro b a w' hI_ hb_ hon hoff
        refine ⟨_, rfl, fun K hK => ?_⟩
        obtain ⟨ha, Q_HBB⟩ := hI_
        have e14 : a.tmps[14]? = some (.bool true) := by rw [ha]; exact (putSel_off rfl).trans rfl
        have e62 : a.tmps[62]? = some (.bool true) := by rw [ha]; exact putSel_on (e := (1, 62, .bool true)) 1 rfl rfl (hon 1 (by kernel_rfl)) rfl
        replace ha := Aside0.mk ha
        have HBB := Aside0.mk Q_HBB
        refine value_ (w1 := w') (v := .bool true) (wanted_on rfl rfl rfl (e62.trans (by first | rfl | (simp [*]; done)))) rfl ?_ ?_
        · go_simp
          (try simp only [i64_w])
          try (first | rfl | assumption)
        refine hK.out _ _ ⟨(by rw [ha.out]; exact putSel_upk 2 hb_ rfl rfl rfl), Q_HBB⟩
      refine steps_cons ?_ ?_
      · intro b a w' hI_ hb_ hon hoff
        refine ⟨_, rfl, fun K hK => ?_⟩
        obtain ⟨ha, Q_HBB⟩ := hI_
        have e62 : a.tmps[62]? = some (.bool true) := by rw [ha]; exact putSel_on (e := (1, 62, .bool true)) 1 rfl rfl (hon 1 (by kernel_rfl)) rfl
        have e63 : a.tmps[63]? = some (.bool true) := by rw [ha]; exact putSel_on (e := (2, 63, .bool true)) 2 rfl rfl (hon 2 (by kernel_rfl)) rfl
        replace ha := Aside0.mk ha
        have HBB := Aside0.mk Q_HBB
        refine value_ (w1 := w') (v := .bool true) (by rfl) rfl ?_ ?_
        · go_simp
          (try simp only [i64_w])
          try (first | rfl | assumption)
        refine hK.out _ _ ⟨(by rw [ha.out]; exact putSel_upk 3 hb_ rfl rfl rfl), Q_HBB⟩
      refine steps_cons ?_ ?_
      · intro b a w' hI_ hb_ hon hoff
        refine ⟨_, rfl, fun K hK => ?_⟩
        obtain ⟨ha, Q_HBB⟩ := hI_
        have e64 : a.tmps[64]? = some (.bool true) := by rw [ha]; exact putSel_on (e := (3, 64, .bool true)) 3 rfl rfl (hon 3 (by kernel_rfl)) rfl
        replace ha := Aside0.mk ha
        have HBB := Aside0.mk Q_HBB
        refine value_ (w1 := w') (v := .bool true) (by rfl) rfl ?_ ?_
        · go_simp
          (try simp only [i64_w])
          try (first | rfl | assumption)
        refine hK.out _ _ ⟨(by rw [ha.out]; exact putSel_upk 4 hb_ rfl rfl rfl), Q_HBB⟩
      refine steps_cons ?_ ?_
      · intro b a w' hI_ hb_ hon hoff
        refine ⟨_, rfl, fun K hK => ?_⟩
        obtain ⟨ha, Q_HBB⟩ := hI_
        have e6 : a.tmps[6]? = some (.int .i64 c) := by rw [ha]; exact (putSel_off rfl).trans rfl
        have e65 : a.tmps[65]? = some (.bool true) := by rw [ha]; exact putSel_on (e := (4, 65, .bool true)) 4 rfl rfl (hon 4 (by kernel_rfl)) rfl
        replace ha := Aside0.mk ha
        have HBB := Aside0.mk Q_HBB
        refine value_ (w1 := w') (v := .int .i64 c) (wanted_on rfl rfl rfl (e65.trans (by first | rfl | (simp [*]; done)))) rfl ?_ ?_
        · go_simp
          (try simp only [i64_w])
          try (first | rfl | assumption)
        refine hK.out _ _ ⟨(by rw [ha.out]; exact putSel_upk 5 hb_ rfl rfl rfl), Q_HBB⟩
      refine steps_cons ?_ ?_
      · intro b a w' hI_ hb_ hon hoff
        refine ⟨_, rfl, fun K hK => ?_⟩
        obtain ⟨ha, Q_HBB⟩ := hI_
        have e9 : a.tmps[9]? = some (.int .i64 c) := by rw [ha]; exact (putSel_off rfl).trans rfl
        have e65 : a.tmps[65]? = some (.bool true) := by rw [ha]; exact putSel_on (e := (4, 65, .bool true)) 4 rfl rfl (hon 4 (by kernel_rfl)) rfl
        replace ha := Aside0.mk ha
        have HBB := Aside0.mk Q_HBB
        refine value_ (w1 := w') (v := .int .i64 c) (wanted_on rfl rfl rfl (e65.trans (by first | rfl | (simp [*]; done)))) rfl ?_ ?_
        · go_simp
          (try simp only [i64_w])
          try (first | rfl | assumption)
        refine hK.out _ _ ⟨(by rw [ha.out]; exact putSel_upk 6 hb_ rfl rfl rfl), Q_HBB⟩
      refine steps_cons ?_ ?_
      · intro b a w' hI_ hb_ hon hoff
        refine ⟨_, rfl, fun K hK => ?_⟩
        obtain ⟨ha, Q_HBB⟩ := hI_
        have e66 : a.tmps[66]? = some (.int .i64 c) := by rw [ha]; exact putSel_on (e := (5, 66, .int .i64 c)) 5 rfl rfl (hon 5 (by kernel_rfl)) rfl
        have e67 : a.tmps[67]? = some (.int .i64 c) := by rw [ha]; exact putSel_on (e := (6, 67, .int .i64 c)) 6 rfl rfl (hon 6 (by kernel_rfl)) rfl
        have e65 : a.tmps[65]? = some (.bool true) := by rw [ha]; exact putSel_on (e := (4, 65, .bool true)) 4 rfl rfl (hon 4 (by kernel_rfl)) rfl
        replace ha := Aside0.mk ha
        have HBB := Aside0.mk Q_HBB
        refine value_ (w1 := w') (v := .bool true) (wanted_on rfl rfl rfl (e65.trans (by first | rfl | (simp [*]; done)))) rfl ?_ ?_
        · go_simp
          (try simp only [i64_w])
          try (first | rfl | assumption)
        refine hK.out _ _ ⟨(by rw [ha.out]; exact putSel_upk 7 hb_ rfl rfl rfl), Q_HBB⟩
      refine steps_cons ?_ ?_
      · intro b a w' hI_ hb_ hon hoff
        refine ⟨_, rfl, fun K hK => ?_⟩
        obtain ⟨ha, Q_HBB⟩ := hI_
        have e65 : a.tmps[65]? = some (.bool true) := by rw [ha]; exact putSel_on (e := (4, 65, .bool true)) 4 rfl rfl (hon 4 (by kernel_rfl)) rfl
        have e68 : a.tmps[68]? = some (.bool true) := by rw [ha]; exact putSel_on (e := (7, 68, .bool true)) 7 rfl rfl (hon 7 (by kernel_rfl)) rfl
        replace ha := Aside0.mk ha
        have HBB := Aside0.mk Q_HBB
        refine value_ (w1 := w') (v := .bool true) (by rfl) rfl ?_ ?_
        · go_simp
          (try simp only [i64_w])
          try (first | rfl | assumption)
        refine hK.out _ _ ⟨(by rw [ha.out]; exact putSel_upk 8 hb_ rfl rfl rfl), Q_HBB⟩
      refine steps_cons ?_ ?_
      · intro b a w' hI_ hb_ hon hoff
        refine ⟨_, rfl, fun K hK => ?_⟩
        obtain ⟨ha, Q_HBB⟩ := hI_
        have e69 : a.tmps[69]? = some (.bool true) := by rw [ha]; exact putSel_on (e := (8, 69, .bool true)) 8 rfl rfl (hon 8 (by kernel_rfl)) rfl
        replace ha := Aside0.mk ha
        have HBB := Aside0.mk Q_HBB
        refine value_ (w1 := w') (v := .bool true) (by rfl) rfl ?_ ?_
        · go_simp
          (try simp only [i64_w])
          try (first | rfl | assumption)
        refine hK.out _ _ ⟨(by rw [ha.out]; exact putSel_upk 9 hb_ rfl rfl rfl), Q_HBB⟩
      refine steps_cons ?_ ?_
      · intro b a w' hI_ hb_ hon hoff
        refine ⟨_, rfl, fun K hK => ?_⟩
        obtain ⟨ha, Q_HBB⟩ := hI_
        have e6 : a.tmps[6]? = some (.int .i64 c) := by rw [ha]; exact (putSel_off rfl).trans rfl
        have e70 : a.tmps[70]? = some (.bool true) := by rw [ha]; exact putSel_on (e := (9, 70, .bool true)) 9 rfl rfl (hon 9 (by kernel_rfl)) rfl
        replace ha := Aside0.mk ha
        have HBB := Aside0.mk Q_HBB
        refine value_ (w1 := w') (v := .int .i64 c) (wanted_on rfl rfl rfl (e70.trans (by first | rfl | (simp [*]; done)))) rfl ?_ ?_
        · go_simp
          (try simp only [i64_w])
          try (first | rfl | assumption)
        refine hK.out _ _ ⟨(by rw [ha.out]; exact putSel_upk 10 hb_ rfl rfl rfl), Q_HBB⟩
      refine steps_cons ?_ ?_
      · intro b a w' hI_ hb_ hon hoff
        refine ⟨_, rfl, fun K hK => ?_⟩
        obtain ⟨ha, Q_HBB⟩ := hI_
        have e71 : a.tmps[71]? = some (.int .i64 c) := by rw [ha]; exact putSel_on (e := (10, 71, .int .i64 c)) 10 rfl rfl (hon 10 (by kernel_rfl)) rfl
        have e70 : a.tmps[70]? = some (.bool true) := by rw [ha]; exact putSel_on (e := (9, 70, .bool true)) 9 rfl rfl (hon 9 (by kernel_rfl)) rfl
        replace ha := Aside0.mk ha
        have HBB := Aside0.mk Q_HBB
        refine value_ (w1 := w') (v := .bool true) (wanted_on rfl rfl rfl (e70.trans (by first | rfl | (simp [*]; done)))) rfl ?_ ?_
        · go_simp
          (try simp only [i64_w])
          try (first | rfl | assumption)
        refine hK.out _ _ ⟨(by rw [ha.out]; exact putSel_upk 11 hb_ rfl rfl rfl), Q_HBB⟩
      refine steps_cons ?_ ?_
      · intro b a w' hI_ hb_ hon hoff
        refine ⟨_, rfl, fun K hK => ?_⟩
        obtain ⟨ha, Q_HBB⟩ := hI_
        have e72 : a.tmps[72]? = some (.bool true) := by rw [ha]; exact putSel_on (e := (11, 72, .bool true)) 11 rfl rfl (hon 11 (by kernel_rfl)) rfl
        have e70 : a.tmps[70]? = some (.bool true) := by rw [ha]; exact putSel_on (e := (9, 70, .bool true)) 9 rfl rfl (hon 9 (by kernel_rfl)) rfl
        replace ha := Aside0.mk ha
        have HBB := Aside0.mk Q_HBB
        refine value_ (w1 := w') (v := .bool true) (wanted_on rfl rfl rfl (e70.trans (by first | rfl | (simp [*]; done)))) rfl ?_ ?_
        · go_simp
          (try simp only [i64_w])
          try (first | rfl | assumption)
        refine hK.out _ _ ⟨(by rw [ha.out]; exact putSel_upk 12 hb_ rfl rfl rfl), Q_HBB⟩
      refine steps_cons ?_ ?_
      · intro b a w' hI_ hb_ hon hoff
        refine ⟨_, rfl, fun K hK => ?_⟩
        obtain ⟨ha, Q_HBB⟩ := hI_
        have e73 : a.tmps[73]? = some (.bool true) := by rw [ha]; exact putSel_on (e := (12, 73, .bool true)) 12 rfl rfl (hon 12 (by kernel_rfl)) rfl
        replace ha := Aside0.mk ha
        have HBB := Aside0.mk Q_HBB
        refine off_ (wanted_off rfl rfl rfl (e73.trans (by first | rfl | (simp [*]; done)))) ?_
        refine hK.out _ _ ⟨(by rw [ha.out]; exact putSel_upk 13 hb_ rfl rfl rfl), Q_HBB⟩
      refine steps_cons ?_ ?_
      · intro b a w' hI_ hb_ hon hoff
        refine ⟨_, rfl, fun K hK => ?_⟩
        obtain ⟨ha, Q_HBB⟩ := hI_
        have e73 : a.tmps[73]? = some (.bool true) := by rw [ha]; exact putSel_on (e := (12, 73, .bool true)) 12 rfl rfl (hon 12 (by kernel_rfl)) rfl
        replace ha := Aside0.mk ha
        have HBB := Aside0.mk Q_HBB
        refine off_ (wanted_off rfl rfl rfl (e73.trans (by first | rfl | (simp [*]; done)))) ?_
        refine hK.out _ _ ⟨(by rw [ha.out]; exact putSel_upk 14 hb_ rfl rfl rfl), Q_HBB⟩
      refine steps_cons ?_ ?_
      · intro b a w' hI_ hb_ hon hoff
        refine ⟨_, rfl, fun K hK => ?_⟩
        obtain ⟨ha, Q_HBB⟩ := hI_
        have e73 : a.tmps[73]? = some (.bool true) := by rw [ha]; exact putSel_on (e := (12, 73, .bool true)) 12 rfl rfl (hon 12 (by kernel_rfl)) rfl
        replace ha := Aside0.mk ha
        have HBB := Aside0.mk Q_HBB
        refine off_ (wanted_off rfl rfl rfl (e73.trans (by first | rfl | (simp [*]; done)))) ?_
        refine hK.out _ _ ⟨(by rw [ha.out]; exact putSel_upk 15 hb_ rfl rfl rfl), Q_HBB⟩
      refine steps_cons ?_ ?_
      · intro b a w' hI_ hb_ hon hoff
        refine ⟨_, rfl, fun K hK => ?_⟩
        obtain ⟨ha, Q_HBB⟩ := hI_
        have e73 : a.tmps[73]? = some (.bool true) := by rw [ha]; exact putSel_on (e := (12, 73, .bool true)) 12 rfl rfl (hon 12 (by kernel_rfl)) rfl
        replace ha := Aside0.mk ha
        have HBB := Aside0.mk Q_HBB
        refine off_ (wanted_off rfl rfl rfl (e73.trans (by first | rfl | (simp [*]; done)))) ?_
        refine hK.out _ _ ⟨(by rw [ha.out]; exact putSel_upk 16 hb_ rfl rfl rfl), Q_HBB⟩
      refine steps_cons ?_ ?_
      · intro b a w' hI_ hb_ hon hoff
        refine ⟨_, rfl, fun K hK => ?_⟩
        obtain ⟨ha, Q_HBB⟩ := hI_
        have e73 : a.tmps[73]? = some (.bool true) := by rw [ha]; exact putSel_on (e := (12, 73, .bool true)) 12 rfl rfl (hon 12 (by kernel_rfl)) rfl
        replace ha := Aside0.mk ha
        have HBB := Aside0.mk Q_HBB
        refine off_ (wanted_off rfl rfl rfl (e73.trans (by first | rfl | (simp [*]; done)))) ?_
        refine hK.out _ _ ⟨(by rw [ha.out]; exact putSel_upk 17 hb_ rfl rfl rfl), Q_HBB⟩
      refine steps_cons ?_ ?_
      · intro b a w' hI_ hb_ hon hoff
        refine ⟨_, rfl, fun K hK => ?_⟩
        obtain ⟨ha, Q_HBB⟩ := hI_
        have e73 : a.tmps[73]? = some (.bool true) := by rw [ha]; exact putSel_on (e := (12, 73, .bool true)) 12 rfl rfl (hon 12 (by kernel_rfl)) rfl
        replace ha := Aside0.mk ha
        have HBB := Aside0.mk Q_HBB
        refine off_ (wanted_off rfl rfl rfl (e73.trans (by first | rfl | (simp [*]; done)))) ?_
        refine hK.out _ _ ⟨(by rw [ha.out]; exact putSel_upk 18 hb_ rfl rfl rfl), Q_HBB⟩
      refine steps_cons ?_ ?_
      · intro b a w' hI_ hb_ hon hoff
        refine ⟨_, rfl, fun K hK => ?_⟩
        obtain ⟨ha, Q_HBB⟩ := hI_
        have e73 : a.tmps[73]? = some (.bool true) := by rw [ha]; exact putSel_on (e := (12, 73, .bool true)) 12 rfl rfl (hon 12 (by kernel_rfl)) rfl
        replace ha := Aside0.mk ha
        have HBB := Aside0.mk Q_HBB
        refine off_ (wanted_off rfl rfl rfl (e73.trans (by first | rfl | (simp [*]; done)))) ?_
        refine hK.out _ _ ⟨(by rw [ha.out]; exact putSel_upk 19 hb_ rfl rfl rfl), Q_HBB⟩
      refine steps_cons ?_ ?_
      · intro b a w' hI_ hb_ hon hoff
        refine ⟨_, rfl, fun K hK => ?_⟩
        obtain ⟨ha, Q_HBB⟩ := hI_
        have e73 : a.tmps[73]? = some (.bool true) := by rw [ha]; exact putSel_on (e := (12, 73, .bool true)) 12 rfl rfl (hon 12 (by kernel_rfl)) rfl
        replace ha := Aside0.mk ha
        have HBB := Aside0.mk Q_HBB
        refine off_ (wanted_off rfl rfl rfl (e73.trans (by first | rfl | (simp [*]; done)))) ?_
        refine hK.out _ _ ⟨(by rw [ha.out]; exact putSel_upk 20 hb_ rfl rfl rfl), Q_HBB⟩
      refine steps_cons ?_ ?_
      · intro b a w' hI_ hb_ hon hoff
        refine ⟨_, rfl, fun K hK => ?_⟩
        obtain ⟨ha, Q_HBB⟩ := hI_
        have e73 : a.tmps[73]? = some (.bool true) := by rw [ha]; exact putSel_on (e := (12, 73, .bool true)) 12 rfl rfl (hon 12 (by kernel_rfl)) rfl
        have e81 : a.tmps[81]? = some (undef) := by rw [ha]; exact putSel_on (e := (20, 81, undef)) 20 rfl rfl (hon 20 (by kernel_rfl)) rfl
        have e70 : a.tmps[70]? = some (.bool true) := by rw [ha]; exact putSel_on (e := (9, 70, .bool true)) 9 rfl rfl (hon 9 (by kernel_rfl)) rfl
        replace ha := Aside0.mk ha
        have HBB := Aside0.mk Q_HBB
        refine value_ (w1 := w') (v := (Value.bool true)) (wanted_on rfl rfl rfl (e70.trans (by first | rfl | (simp [*]; done)))) rfl ?_ ?_
        · go_simp
          (try simp only [i64_w])
          try (first | rfl | assumption)
        refine hK.out _ _ ⟨(by rw [ha.out]; exact putSel_upk 21 hb_ rfl rfl rfl), Q_HBB⟩
      refine steps_cons ?_ ?_
      · intro b a w' hI_ hb_ hon hoff
        refine ⟨_, rfl, fun K hK => ?_⟩
        obtain ⟨ha, Q_HBB⟩ := hI_
        have e70 : a.tmps[70]? = some (.bool true) := by rw [ha]; exact putSel_on (e := (9, 70, .bool true)) 9 rfl rfl (hon 9 (by kernel_rfl)) rfl
        have e82 : a.tmps[82]? = some ((Value.bool true)) := by rw [ha]; exact putSel_on (e := (21, 82, (Value.bool true))) 21 rfl rfl (hon 21 (by kernel_rfl)) rfl
        replace ha := Aside0.mk ha
        have HBB := Aside0.mk Q_HBB
        refine value_ (w1 := w') (v := (Value.bool true)) (by rfl) rfl ?_ ?_
        · go_simp
          (try simp only [i64_w])
          try (first | rfl | assumption)
        refine hK.out _ _ ⟨(by rw [ha.out]; exact putSel_upk 22 hb_ rfl rfl rfl), Q_HBB⟩
      refine steps_cons ?_ ?_
      · intro b a w' hI_ hb_ hon hoff
        refine ⟨_, rfl, fun K hK => ?_⟩
        obtain ⟨ha, Q_HBB⟩ := hI_
        have e83 : a.tmps[83]? = some ((Value.bool true)) := by rw [ha]; exact putSel_on (e := (22, 83, (Value.bool true))) 22 rfl rfl (hon 22 (by kernel_rfl)) rfl
        replace ha := Aside0.mk ha
        have HBB := Aside0.mk Q_HBB
        refine value_ (w1 := w') (v := (Value.bool true)) (by rfl) rfl ?_ ?_
        · go_simp
          (try simp only [i64_w])
          try (first | rfl | assumption)
        refine hK.out _ _ ⟨(by rw [ha.out]; exact putSel_upk 23 hb_ rfl rfl rfl), Q_HBB⟩
      refine steps_cons ?_ ?_
      · intro b a w' hI_ hb_ hon hoff
        refine ⟨_, rfl, fun K hK => ?_⟩
        obtain ⟨ha, Q_HBB⟩ := hI_
        have e15 : a.tmps[15]? = some (.bool true) := by rw [ha]; exact (putSel_off rfl).trans rfl
        have e84 : a.tmps[84]? = some ((Value.bool true)) := by rw [ha]; exact putSel_on (e := (23, 84, (Value.bool true))) 23 rfl rfl (hon 23 (by kernel_rfl)) rfl
        replace ha := Aside0.mk ha
        have HBB := Aside0.mk Q_HBB
        refine value_ (w1 := w') (v := .bool true) (wanted_on rfl rfl rfl (e84.trans (by first | rfl | (simp [*]; done)))) rfl ?_ ?_
        · go_simp
          (try simp only [i64_w])
          try (first | rfl | assumption)
        refine hK.out _ _ ⟨(by rw [ha.out]; exact putSel_upk 24 hb_ rfl rfl rfl), Q_HBB⟩
      refine steps_cons ?_ ?_
      · intro b a w' hI_ hb_ hon hoff
        refine ⟨_, rfl, fun K hK => ?_⟩
        obtain ⟨ha, Q_HBB⟩ := hI_
        have e84 : a.tmps[84]? = some ((Value.bool true)) := by rw [ha]; exact putSel_on (e := (23, 84, (Value.bool true))) 23 rfl rfl (hon 23 (by kernel_rfl)) rfl
        have e85 : a.tmps[85]? = some (.bool true) := by rw [ha]; exact putSel_on (e := (24, 85, .bool true)) 24 rfl rfl (hon 24 (by kernel_rfl)) rfl
        replace ha := Aside0.mk ha
        have HBB := Aside0.mk Q_HBB
        refine value_ (w1 := w') (v := .bool true) (by rfl) rfl ?_ ?_
        · go_simp
          (try simp only [i64_w])
          try (first | rfl | assumption)
        refine hK.out _ _ ⟨(by rw [ha.out]; exact putSel_upk 25 hb_ rfl rfl rfl), Q_HBB⟩
      refine steps_cons ?_ ?_
      · intro b a w' hI_ hb_ hon hoff
        refine ⟨_, rfl, fun K hK => ?_⟩
        obtain ⟨ha, Q_HBB⟩ := hI_
        have e86 : a.tmps[86]? = some (.bool true) := by rw [ha]; exact putSel_on (e := (25, 86, .bool true)) 25 rfl rfl (hon 25 (by kernel_rfl)) rfl
        replace ha := Aside0.mk ha
        have HBB := Aside0.mk Q_HBB
        refine value_ (w1 := w') (v := .bool true) (by rfl) rfl ?_ ?_
        · go_simp
          (try simp only [i64_w])
          try (first | rfl | assumption)
        refine hK.out _ _ ⟨(by rw [ha.out]; exact putSel_upk 26 hb_ rfl rfl rfl), Q_HBB⟩
      refine steps_cons ?_ ?_
      · intro b a w' hI_ hb_ hon hoff
        refine ⟨_, rfl, fun K hK => ?_⟩
        obtain ⟨ha, Q_HBB⟩ := hI_
        have e11 : a.tmps[11]? = some (.int .i64 r2) := by rw [ha]; exact (putSel_off rfl).trans rfl
        have e87 : a.tmps[87]? = some (.bool true) := by rw [ha]; exact putSel_on (e := (26, 87, .bool true)) 26 rfl rfl (hon 26 (by kernel_rfl)) rfl
        replace ha := Aside0.mk ha
        have HBB := Aside0.mk Q_HBB
        refine value_ (w1 := w') (v := .int .i64 r2) (wanted_on rfl rfl rfl (e87.trans (by first | rfl | (simp [*]; done)))) rfl ?_ ?_
        · go_simp
          (try simp only [i64_w])
          try (first | rfl | assumption)
        refine hK.out _ _ ⟨(by rw [ha.out]; exact putSel_upk 27 hb_ rfl rfl rfl), Q_HBB⟩
      refine steps_cons ?_ ?_
      · intro b a w' hI_ hb_ hon hoff
        refine ⟨_, rfl, fun K hK => ?_⟩
        obtain ⟨ha, Q_HBB⟩ := hI_
        have e13 : a.tmps[13]? = some (.int .i64 r2) := by rw [ha]; exact (putSel_off rfl).trans rfl
        have e87 : a.tmps[87]? = some (.bool true) := by rw [ha]; exact putSel_on (e := (26, 87, .bool true)) 26 rfl rfl (hon 26 (by kernel_rfl)) rfl
        replace ha := Aside0.mk ha
        have HBB := Aside0.mk Q_HBB
        refine value_ (w1 := w') (v := .int .i64 r2) (wanted_on rfl rfl rfl (e87.trans (by first | rfl | (simp [*]; done)))) rfl ?_ ?_
        · go_simp
          (try simp only [i64_w])
          try (first | rfl | assumption)
        refine hK.out _ _ ⟨(by rw [ha.out]; exact putSel_upk 28 hb_ rfl rfl rfl), Q_HBB⟩
      refine steps_cons ?_ ?_
      · intro b a w' hI_ hb_ hon hoff
        refine ⟨_, rfl, fun K hK => ?_⟩
        obtain ⟨ha, Q_HBB⟩ := hI_
        have e88 : a.tmps[88]? = some (.int .i64 r2) := by rw [ha]; exact putSel_on (e := (27, 88, .int .i64 r2)) 27 rfl rfl (hon 27 (by kernel_rfl)) rfl
        have e89 : a.tmps[89]? = some (.int .i64 r2) := by rw [ha]; exact putSel_on (e := (28, 89, .int .i64 r2)) 28 rfl rfl (hon 28 (by kernel_rfl)) rfl
        have e87 : a.tmps[87]? = some (.bool true) := by rw [ha]; exact putSel_on (e := (26, 87, .bool true)) 26 rfl rfl (hon 26 (by kernel_rfl)) rfl
        replace ha := Aside0.mk ha
        have HBB := Aside0.mk Q_HBB
        refine value_ (w1 := w') (v := .bool true) (wanted_on rfl rfl rfl (e87.trans (by first | rfl | (simp [*]; done)))) rfl ?_ ?_
        · go_simp
          (try simp only [i64_w])
          try (first | rfl | assumption)
        refine hK.out _ _ ⟨(by rw [ha.out]; exact putSel_upk 29 hb_ rfl rfl rfl), Q_HBB⟩
      refine steps_cons ?_ ?_
      · intro b a w' hI_ hb_ hon hoff
        refine ⟨_, rfl, fun K hK => ?_⟩
        obtain ⟨ha, Q_HBB⟩ := hI_
        have e87 : a.tmps[87]? = some (.bool true) := by rw [ha]; exact putSel_on (e := (26, 87, .bool true)) 26 rfl rfl (hon 26 (by kernel_rfl)) rfl
        have e90 : a.tmps[90]? = some (.bool true) := by rw [ha]; exact putSel_on (e := (29, 90, .bool true)) 29 rfl rfl (hon 29 (by kernel_rfl)) rfl
        replace ha := Aside0.mk ha
        have HBB := Aside0.mk Q_HBB
        refine value_ (w1 := w') (v := .bool true) (by rfl) rfl ?_ ?_
        · go_simp
          (try simp only [i64_w])
          try (first | rfl | assumption)
        refine hK.out _ _ ⟨(by rw [ha.out]; exact putSel_upk 30 hb_ rfl rfl rfl), Q_HBB⟩
      refine steps_cons ?_ ?_
      · intro b a w' hI_ hb_ hon hoff
        refine ⟨_, rfl, fun K hK => ?_⟩
        obtain ⟨ha, Q_HBB⟩ := hI_
        have e91 : a.tmps[91]? = some (.bool true) := by rw [ha]; exact putSel_on (e := (30, 91, .bool true)) 30 rfl rfl (hon 30 (by kernel_rfl)) rfl
        replace ha := Aside0.mk ha
        have HBB := Aside0.mk Q_HBB
        refine value_ (w1 := w') (v := .bool true) (by rfl) rfl ?_ ?_
        · go_simp
          (try simp only [i64_w])
          try (first | rfl | assumption)
        refine hK.out _ _ ⟨(by rw [ha.out]; exact putSel_upk 31 hb_ rfl rfl rfl), Q_HBB⟩
      exact steps_nil
    rintro b a wz hall ⟨ha, Q_HBB⟩
    clear HBB
    have hb0_ := hall 0 (by kernel_rfl)
    have hb1_ := hall 1 (by kernel_rfl)
    have hb2_ := hall 2 (by kernel_rfl)
    have hb3_ := hall 3 (by kernel_rfl)
    have hb4_ := hall 4 (by kernel_rfl)
    have hb5_ := hall 5 (by kernel_rfl)
    have hb6_ := hall 6 (by kernel_rfl)
    have hb7_ := hall 7 (by kernel_rfl)
    have hb8_ := hall 8 (by kernel_rfl)
    have hb9_ := hall 9 (by kernel_rfl)
    have hb10_ := hall 10 (by kernel_rfl)
    have hb11_ := hall 11 (by kernel_rfl)
    have hb12_ := hall 12 (by kernel_rfl)
    have hb13_ := hall 13 (by kernel_rfl)
    have hb14_ := hall 14 (by kernel_rfl)
    have hb15_ := hall 15 (by kernel_rfl)
    have hb16_ := hall 16 (by kernel_rfl)
    have hb17_ := hall 17 (by kernel_rfl)
    have hb18_ := hall 18 (by kernel_rfl)
    have hb19_ := hall 19 (by kernel_rfl)
    have hb20_ := hall 20 (by kernel_rfl)
    have hb21_ := hall 21 (by kernel_rfl)
    have hb22_ := hall 22 (by kernel_rfl)
    have hb23_ := hall 23 (by kernel_rfl)
    have hb24_ := hall 24 (by kernel_rfl)
    have hb25_ := hall 25 (by kernel_rfl)
    have hb26_ := hall 26 (by kernel_rfl)
    have hb27_ := hall 27 (by kernel_rfl)
    have hb28_ := hall 28 (by kernel_rfl)
    have hb29_ := hall 29 (by kernel_rfl)
    have hb30_ := hall 30 (by kernel_rfl)
    have hb31_ := hall 31 (by kernel_rfl)
    subst ha
    simp only [putSel, hb0_, hb1_, hb2_, hb3_, hb4_, hb5_, hb6_, hb7_, hb8_, hb9_, hb10_, hb11_, hb12_, hb13_, hb14_, hb15_, hb16_, hb17_, hb18_, hb19_, hb20_, hb21_, hb22_, hb23_, hb24_, hb25_, hb26_, hb27_, hb28_, hb29_, hb30_, hb31_, if_true, Act.put, List.setIfInBounds_toArray, List.set_cons_zero, List.set_cons_succ]
    have HBB := Aside0.mk Q_HBB
    clear Q_HBB
    clear hall hb0_ hb1_ hb2_ hb3_ hb4_ hb5_ hb6_ hb7_ hb8_ hb9_ hb10_ hb11_ hb12_ hb13_ hb14_ hb15_ hb16_ hb17_ hb18_ hb19_ hb20_ hb21_ hb22_ hb23_ hb24_ hb25_ hb26_ hb27_ hb28_ hb29_ hb30_ hb31_
    go_wp2_with fail
    go_ret
    exact ⟨rfl, (by repeat (first | (with_reducible first | exact HBB.out | apply below_alloc | apply pw_below_drewN | apply below_drew1) | exact HBB.out))⟩
end Go.Proofs.Ytdpigeineephlaa.Prt

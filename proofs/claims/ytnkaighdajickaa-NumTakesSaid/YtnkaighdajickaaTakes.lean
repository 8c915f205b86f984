/- The statement NumTakes: the walk of the law. -/
import Derived.Test.YtnkaighdajickaaN7
namespace Go.Proofs.Ytnkaighdajickaa.Num
open Go.RowKit Go.Proofs.YtnkaighdajickaaW.PrintWords Go.Proofs.YtnkaighdajickaaW.PrintLast Go.Proofs.YtnkaighdajickaaW.PrintMore
set_option linter.unusedVariables false
set_option linter.unusedSimpArgs false

open Go.Proofs.YtnkaighdajickaaW.PrintLast
def D7.T17 : Bool × List (List Nat × List Nat) := (true, [([], []), ([0], [0]), ([], []), ([2], [2]), ([3], [3]), ([4], [4]), ([1, 5], [1, 5]), ([6, 1], [6]), ([7], [7]), ([8, 7, 7], [7, 8]), ([7], [7]), ([10, 7], [7, 10]), ([11, 7], [7, 11]), ([12, 7], [7, 12]), ([13, 7], [7, 13]), ([9, 14, 7], [7, 9, 14]), ([7, 15], [7, 15])])
def D7.B17 : List Nat := [0, 1, 0, 4, 12, 28, 63, 127, 255, 511, 255, 1279, 3327, 7423, 15615, 32767, 65535]
theorem D7.tab17 : rtab .any (opsOf Try.f7 17) = D7.T17 := by kernel_rfl
theorem D7.bits17 : waitsOk D7.T17.2 D7.B17 = true := by kernel_rfl
theorem takes_law (A0 : Option Addr) (len0 cap0 : Nat) (z0 : List Int) (vb : Value) (l : List Bool) (w : World) (w0 : (A0 = none ∧ len0 = 0 ∧ cap0 = 0 ∧ z0 = []) ∨ ∃ x, A0 = some x ∧ len0 ≤ cap0 ∧ cap0 ≤ maxLen ∧ z0.length = cap0 ∧ (∀ i, i < z0.length → w.cell? (x.add i) = some (.int .u8 (z0.getD i 0))) ∧ ∀ n ∈ z0, (Lit.int .u8 n).wf = true) (y0 : len0 * 1 ≤ 140737488351232) (y1 : Lst Kd.bool w vb l) (t1 : ∀ x ∈ l, True) :
    Calls Try.prog 7 #[.slice A0 len0 cap0, vb] w fun e w' => e = .returned (.bool true) ∧ Below w.heap.size w w' := by
  obtain ⟨l0, rfl, hr, hm0, hw, hc0⟩ := ReadsInt.ofRowC w0
  have hC := Kd.C_of_reads (d := (0 : Int)) (h1 := fun _ => rfl) hr
  have HR0 := Aside0.mk hC
  have HBY0 := Aside0.mk (isBytes_wf hw)
  clear w0 hr hw hC
  obtain ⟨A1, cap1, rfl, hc1, hC1⟩ := y1
  have HR := Aside0.mk hC1
  clear hC1 t1 y0
  go_enter Try.func7, Try.ntmps7
  go_upto_if 13 with ((go_at_call 11; refine (shown_calls _).mono ?_; rintro e w1 ⟨rfl, hb⟩; have HB := Aside0.mk hb; clear hb))
  obtain ⟨n0, hn⟩ : ∃ n, n = min 200 l0.length := ⟨_, rfl⟩
  have hna0 : n0 ≤ 200 := by omega
  have hnb0 : n0 ≤ l0.length := by omega
  go_cut [0] (fun vc wc => vc = .slice A0 n0 cap0 ∧ w1 = wc)
  case first =>
    by_cases hb_ : 200 < l0.length
    · have e : n0 = 200 := by omega
      subst e
      clear hn
      go_wp2
      go_meet
      case rel => exact ⟨rfl, rfl⟩
    · have e : n0 = l0.length := by omega
      subst e
      clear hn
      go_wp2
      go_meet
      case rel => exact ⟨rfl, rfl⟩
  case rest =>
  obtain ⟨rfl, rfl⟩ := hcut
  have hcap0 : n0 ≤ cap0 := by omega
  obtain ⟨lb, hlb⟩ : ∃ lb, lb = l0.take n0 := ⟨_, rfl⟩
  have hlen : lb.length = n0 := by rw [hlb, List.length_take]; omega
  have HLB0 := Aside0.mk (show (Kd.int .u8).C w A0 lb.length lb by rw [hlen, hlb]; exact take_C HR0.out hnb0)
  have HBZ0 := Aside0.mk (show isBytes lb by rw [hlb]; exact isBytes_take HBY0.out n0)
  clear hlb hn HR0 HBY0
  subst hlen
  go_wp2_with (first
    | ((with_reducible refine gate_dst (N := 16) rfl ?_); refine Kd.R_lit (Kd.int .u8) (w0 := w) w.heap.size 5 ?hg (N := 16) ?hd (xs := []) (inner := []) (ok := fun _ => True) (okp := fun _ => True) ?hr ?hp (fun _ hk => hk) trivial ?hB ?hS (by simp) ?_; (case hd => rfl); (case hg => rfl); (case hr => first | (go_simp; done) | (go_simp; rfl)); (case hp => exact (Reps.none _ _)); (case hB => exact (by repeat (first | (with_reducible first | exact HB.out | apply below_alloc | apply pw_below_drewN | apply below_drew1) | exact HB.out))); (case hS => exact (below_size (by repeat (first | (with_reducible first | exact HB.out | apply below_alloc | apply pw_below_drewN | apply below_drew1) | exact HB.out)))); intro v1 w1 ho hb hg hat; have n0_ := Aside0.mk (hb); have n1_ := Aside0.mk (ho); clear HB; have HB := n0_; have HO1 := n1_; clear n0_ n1_; clear ho hb hg hat)
    | ((with_reducible refine gate_builtin (b := .append) (xs := #[.tmp 16, .tmp 17]) rfl ?_); at_builtin; refine Kd.R_append_rows (Kd.int .u8) (w0 := w) w.heap.size rfl (.tmp 16) (.tmp 17) 23 5 (.int .u8 0) 1 rfl Try.underlying23 info_u8 rfl (by decide) (by omega) v1 [] lb _ _ _ (fun _ => True) (fun _ => False) rfl rfl ?aO ?aR (fun _ _ h => h) (fun _ h => h.elim) ?aF ?aB ?aS ?aL ?_; (case aR => exact (by repeat (first | exact (Kd.C_below HLB0.out HB.out) | (with_reducible refine Kd.C_alloc ?_ _) | (with_reducible refine Kd.C_drewN ?_ _) | (with_reducible refine Kd.C_drew ?_)))); (case aB => exact (by repeat (first | (with_reducible first | exact HB.out | apply below_alloc | apply pw_below_drewN | apply below_drew1) | exact HB.out))); (case aF => exact (fun _ _ => trivial)); (case aO => exact (by (with_reducible repeat (first | apply Kd.R_alloc | apply Kd.R_drewN | apply Kd.R_drew)); exact HO1.out)); (case aS => exact (below_size (by repeat (first | (with_reducible first | exact HB.out | apply below_alloc | apply pw_below_drewN | apply below_drew1) | exact HB.out)))); (case aL => simp only [List.length_nil]; omega); intro v2 w2 ho hb hg hat; have n0_ := Aside0.mk (hb); have n1_ := Aside0.mk (ho); clear HB; clear HO1; have HB := n0_; have HO2 := n1_; clear n0_ n1_; clear ho hb hg hat))
  have hv := Lst.of_R HO2.out
  rw [List.nil_append] at hv
  refine (newReaderL _ lb _ hv).mono ?_
  rintro e w3 ⟨g, rfl, hI, hb, hg⟩
  have HG := Aside0.mk hg
  have HI := Aside0.mk hI
  have n_ := Aside0.mk (below_step (by repeat (first | (with_reducible first | exact HB.out | apply below_alloc | apply pw_below_drewN | apply below_drew1) | exact HB.out)) hb)
  have HGW := Aside0.mk (Nat.le_trans ((by repeat (first | (with_reducible first | exact HB.out | apply below_alloc | apply pw_below_drewN | apply below_drew1) | exact HB.out)) : Below w.heap.size w _).size hg)
  clear HB hI hb hg HO2 hv
  have HB := n_
  clear n_
  have n4_ := Aside0.mk (Kd.C_below HLB0.out HB.out)
  clear HLB0
  have HLB := n4_
  clear n4_
  have HL := Aside0.mk (Below.refl w3.heap.size w3)
  have hu := Try.underlying37
  go_wp2_with (first
    | ((with_reducible refine gate_dst (N := 20) rfl ?_); refine Kd.R_lit (Kd.int .u8) (w0 := w3) w3.heap.size 5 ?hg (N := 20) ?hd (xs := []) (inner := []) (ok := fun _ => True) (okp := fun _ => True) ?hr ?hp (fun _ hk => hk) trivial ?hB ?hS (by simp) ?_; (case hd => rfl); (case hg => rfl); (case hr => first | (go_simp; done) | (go_simp; rfl)); (case hp => exact (Reps.none _ _)); (case hB => exact (by repeat (first | (with_reducible first | exact HL.out | apply below_alloc | apply pw_below_drewN | apply below_drew1) | exact HL.out))); (case hS => exact (below_size (by repeat (first | (with_reducible first | exact HL.out | apply below_alloc | apply pw_below_drewN | apply below_drew1) | exact HL.out)))); intro v5 w5 ho hb hg hat; have n0_ := Aside0.mk (hb); have n1_ := Aside0.mk (ho); clear HL; have HL := n0_; have HO5 := n1_; clear n0_ n1_; clear ho hb hg hat)
    | ((with_reducible refine gate_builtin (b := .append) (xs := #[.tmp 20, .tmp 21]) rfl ?_); at_builtin; refine Kd.R_append_rows (Kd.int .u8) (w0 := w3) w3.heap.size rfl (.tmp 20) (.tmp 21) 23 5 (.int .u8 0) 1 rfl Try.underlying23 info_u8 rfl (by decide) (by omega) v5 [] lb _ _ _ (fun _ => True) (fun _ => False) rfl rfl ?aO ?aR (fun _ _ h => h) (fun _ h => h.elim) ?aF ?aB ?aS ?aL ?_; (case aR => exact (by repeat (first | exact (Kd.C_below HLB.out HL.out) | (with_reducible refine Kd.C_alloc ?_ _) | (with_reducible refine Kd.C_drewN ?_ _) | (with_reducible refine Kd.C_drew ?_)))); (case aB => exact (by repeat (first | (with_reducible first | exact HL.out | apply below_alloc | apply pw_below_drewN | apply below_drew1) | exact HL.out))); (case aF => exact (fun _ _ => trivial)); (case aO => exact (by (with_reducible repeat (first | apply Kd.R_alloc | apply Kd.R_drewN | apply Kd.R_drew)); exact HO5.out)); (case aS => exact (below_size (by repeat (first | (with_reducible first | exact HL.out | apply below_alloc | apply pw_below_drewN | apply below_drew1) | exact HL.out)))); (case aL => simp only [List.length_nil]; omega); intro v6 w6 ho hb hg hat; have n0_ := Aside0.mk (hb); have n1_ := Aside0.mk (ho); clear HL; clear HO5; have HL := n0_; have HO6 := n1_; clear n0_ n1_; clear ho hb hg hat; have hv6 := Lst.of_R HO6.out; rw [List.nil_append] at hv6; obtain ⟨A4, c4, rfl, hc4, hC4⟩ := hv6; have HO := Aside0.mk (own_base' HO6.out); have HC4 := Aside0.mk hC4; clear hC4)
    | ((with_reducible refine gate_dst (N := 24) rfl ?_); refine box_event ?hg (N := 24) ?hd (cs := #[.slice A4 lb.length c4, .bool false]) (t := 37) ?hr ?_; (case hd => rfl); (case hg => rfl); (case hr => first | (go_simp; done) | (go_simp; rfl)); intro g2 hg2 w7 hbox hb; have HBX := Aside0.mk hbox; have HG2 := Aside0.mk hg2; have HBB := Aside0.mk hb; clear hbox hb hg2))
  have hbl : Below w3.heap.size w3 w7 := below_step (by repeat (first | (with_reducible first | exact HL.out | apply below_alloc | apply pw_below_drewN | apply below_drew1) | exact HL.out)) HBB.out
  have hlt3 := HI.out.lt
  have hge : w3.heap.size ≤ g2 := by rw [HG2.out]; exact ((by repeat (first | (with_reducible first | exact HL.out | apply below_alloc | apply pw_below_drewN | apply below_drew1) | exact HL.out)) : Below w3.heap.size w3 _).size
  obtain ⟨Q, hQ⟩ : ∃ Q : Nat → Prop, Q = fun k => k ≠ g ∧ k ≠ g2 := ⟨_, rfl⟩
  have hqg : ¬ Q g := by rw [hQ]; exact fun h => h.1 rfl
  have hqg2 : ¬ Q g2 := by rw [hQ]; exact fun h => h.2 rfl
  have hne : g2 ≠ g := by omega
  have HX := Aside0.mk ((HI.out.below hbl).weaken (Q := Q) (fun k hk => by have h := HG.out; have h2 : k < w2.heap.size := hk; rw [hQ]; exact ⟨by omega, by omega⟩) hqg)
  have HY : Aside0 (Rd 37 Q w7 g2 lb false) := ⟨⟨A4, c4, HBX.out, hc4, Kd.C_below HC4.out HBB.out, fun ad e hn => by
    have h1 := HO.out ad e
    have h2 : ad.block < w6.heap.size := Kd.C_lt (e ▸ HC4.out) hn (by decide)
    have h3 : g2 = w6.heap.size := HG2.out
    rw [hQ]; exact ⟨by omega, by omega⟩, hqg2⟩⟩
  have HB7 := Aside0.mk (below_then HB.out HB.out.size hbl)
  have HGW2 : Aside0 (w.heap.size ≤ g2) := ⟨Nat.le_trans HB.out.size hge⟩
  have HQ1 := Aside0.mk hqg
  have HQ2 := Aside0.mk hqg2
  have HNE := Aside0.mk hne
  clear HB HL HI HBX HBB HC4 HO HG HG2 hbl hlt3 hge hQ hqg hqg2 HLB hc4 hne
  have HB := HB7
  clear HB7
  obtain ⟨m, hm⟩ : ∃ m, m = min 40 l.length := ⟨_, rfl⟩
  have HM := Aside0.mk (show m = 40 ∨ m = l.length by omega)
  have hm40 : m ≤ 40 := by omega
  have hml : m ≤ l.length := by omega
  clear hm
  go_loopg [8] m (fun k v8 w' => ∃ (i : Nat) (lr : List Int) (bad : Bool), v8 = .int .i64 (i : Int) ∧ Aside0 (i + k = m) ∧ Aside0 (isBytes lr) ∧ Aside0 (Rd 47 Q w' g lr bad) ∧ Aside0 (Rd 37 Q w' g2 lr bad) ∧ Aside0 (Below w.heap.size w w'))
  case atStart => exact ⟨0, lb, false, rfl, ⟨by omega⟩, HBZ0, ⟨(by repeat (first | exact HX.out | (with_reducible first | refine Rd.drewN ?_ _ | refine Rd.drew ?_ | refine Rd.alloc ?_ _)))⟩, ⟨(by repeat (first | exact HY.out | (with_reducible first | refine Rd.drewN ?_ _ | refine Rd.drew ?_ | refine Rd.alloc ?_ _)))⟩, ⟨(by repeat (first | (with_reducible first | exact HB.out | apply below_alloc | apply pw_below_drewN | apply below_drew1) | exact HB.out))⟩⟩
  case round =>
    clear HX HY HB HBZ0
    obtain ⟨i, lr, bad, rfl, HE, HBY, HX, HY, HB⟩ := hrel
    have him : i ≤ m := by have := HE.out; omega
    by_cases hlt : i < m
    · have hil : i < l.length := by omega
      obtain ⟨ad, rfl, hx⟩ := Kd.at_bool HR.out (i : Int) (by omega) (by omega)
      rw [Int.toNat_natCast] at hx
      obtain ⟨b, hbd⟩ : ∃ b, b = rdOf false l (i : Int) := ⟨_, rfl⟩
      rw [← hbd] at hx
      have hcell := pw_cell_below HB.out hx
      clear hbd hx
      have hb1 : decide ((i : Int) < (l.length : Int)) = true := decide_eq_true (by omega)
      have hb2 : decide ((i : Int) < 40) = true := decide_eq_true (by omega)
      go_upto_if 44 with fail
      go_cut [8] (fun v8 wc => v8 = .int .i64 (i : Int) ∧ ∃ (lr : List Int) (bad : Bool), Aside0 (isBytes lr) ∧ Aside0 (Rd 47 Q wc g lr bad) ∧ Aside0 (Rd 37 Q wc g2 lr bad) ∧ Aside0 (Below w.heap.size w wc))
      case first =>
        cases b
        · obtain ⟨x, hx⟩ : ∃ x, numOf lr = x := ⟨_, rfl⟩
          go_wp2_with fail
          refine (num_calls' x Q _ g lr bad (by repeat (first | exact HX.out | (with_reducible first | refine Rd.drewN ?_ _ | refine Rd.drew ?_ | refine Rd.alloc ?_ _))) HBY.out hx).mono ?_
          rintro e w8 ⟨rfl, hX, hb, hk⟩
          have HX8 := Aside0.mk hX
          have HY8 := Aside0.mk (Rd.kept (by repeat (first | exact HY.out | (with_reducible first | refine Rd.drewN ?_ _ | refine Rd.drew ?_ | refine Rd.alloc ?_ _))) hk HNE.out HQ1.out)
          have n_ := Aside0.mk (((by repeat (first | (with_reducible first | exact HB.out | apply below_alloc | apply pw_below_drewN | apply below_drew1) | exact HB.out)) : Below w.heap.size w _).trans (hb.mono HGW.out))
          clear HX HY HB hX hb hk hcell
          have HB := n_
          clear n_
          go_wp2_with fail
          refine (refNum_calls' x Q _ g2 lr bad (by repeat (first | exact HY8.out | (with_reducible first | refine Rd.drewN ?_ _ | refine Rd.drew ?_ | refine Rd.alloc ?_ _))) HBY.out hx).mono ?_
          rintro e w9 ⟨rfl, hY, hb, hk⟩
          have HY9 := Aside0.mk hY
          have HX9 := Aside0.mk (Rd.kept (by repeat (first | exact HX8.out | (with_reducible first | refine Rd.drewN ?_ _ | refine Rd.drew ?_ | refine Rd.alloc ?_ _))) hk HNE.out.symm HQ2.out)
          have n_ := Aside0.mk (((by repeat (first | (with_reducible first | exact HB.out | apply below_alloc | apply pw_below_drewN | apply below_drew1) | exact HB.out)) : Below w.heap.size w _).trans (hb.mono HGW2.out))
          clear HX8 HY8 HB hY hb hk
          have HB := n_
          clear n_
          go_wp2_with fail
          go_meet
          case rel => exact ⟨rfl, aft lr, badOf lr bad, ⟨aft_bytes HBY.out⟩, ⟨(by repeat (first | exact HX9.out | (with_reducible first | refine Rd.drewN ?_ _ | refine Rd.drew ?_ | refine Rd.alloc ?_ _)))⟩, ⟨(by repeat (first | exact HY9.out | (with_reducible first | refine Rd.drewN ?_ _ | refine Rd.drew ?_ | refine Rd.alloc ?_ _)))⟩, ⟨(by repeat (first | (with_reducible first | exact HB.out | apply below_alloc | apply pw_below_drewN | apply below_drew1) | exact HB.out))⟩⟩
        · go_wp2_with fail
          refine (text_calls Q _ g lr bad (by repeat (first | exact HX.out | (with_reducible first | refine Rd.drewN ?_ _ | refine Rd.drew ?_ | refine Rd.alloc ?_ _))) HBY.out).mono ?_
          rintro e w8 ⟨rfl, hX, hb, hk⟩
          have HX8 := Aside0.mk hX
          have HY8 := Aside0.mk (Rd.kept (by repeat (first | exact HY.out | (with_reducible first | refine Rd.drewN ?_ _ | refine Rd.drew ?_ | refine Rd.alloc ?_ _))) hk HNE.out HQ1.out)
          have n_ := Aside0.mk (((by repeat (first | (with_reducible first | exact HB.out | apply below_alloc | apply pw_below_drewN | apply below_drew1) | exact HB.out)) : Below w.heap.size w _).trans (hb.mono HGW.out))
          clear HX HY HB hX hb hk hcell
          have HB := n_
          clear n_
          go_wp2_with fail
          refine (refText_calls Q _ g2 lr bad (by repeat (first | exact HY8.out | (with_reducible first | refine Rd.drewN ?_ _ | refine Rd.drew ?_ | refine Rd.alloc ?_ _))) HBY.out).mono ?_
          rintro e w9 ⟨rfl, hY, hb, hk⟩
          have HY9 := Aside0.mk hY
          have HX9 := Aside0.mk (Rd.kept (by repeat (first | exact HX8.out | (with_reducible first | refine Rd.drewN ?_ _ | refine Rd.drew ?_ | refine Rd.alloc ?_ _))) hk HNE.out.symm HQ2.out)
          have n_ := Aside0.mk (((by repeat (first | (with_reducible first | exact HB.out | apply below_alloc | apply pw_below_drewN | apply below_drew1) | exact HB.out)) : Below w.heap.size w _).trans (hb.mono HGW2.out))
          clear HX8 HY8 HB hY hb hk
          have HB := n_
          clear n_
          go_wp2_with fail
          go_meet
          case rel => exact ⟨rfl, aftT lr, badT lr bad, ⟨aftT_bytes HBY.out⟩, ⟨(by repeat (first | exact HX9.out | (with_reducible first | refine Rd.drewN ?_ _ | refine Rd.drew ?_ | refine Rd.alloc ?_ _)))⟩, ⟨(by repeat (first | exact HY9.out | (with_reducible first | refine Rd.drewN ?_ _ | refine Rd.drew ?_ | refine Rd.alloc ?_ _)))⟩, ⟨(by repeat (first | (with_reducible first | exact HB.out | apply below_alloc | apply pw_below_drewN | apply below_drew1) | exact HB.out))⟩⟩
      case rest =>
      clear HX HY HB HBY hcell
      obtain ⟨rfl, lr, bad, HBY, HX, HY, HB⟩ := hcut
      have hml2 := HX.out.len
      obtain ⟨Ay, cy, hy0, hy1⟩ := HY.out.cells
      have CY0 := Aside0.mk hy0
      have CY1 := Aside0.mk hy1
      clear hy0 hy1
      have RX := HX
      have RY := HY
      have HBB := HB
      clear HX HY HB
      go_wp2_with fail
      refine start_ (n := 17) (S := fun w' => True) (ds := []) #[false, false, false, false, false, false, false, false, false, false, false, false, false, false, false, false, false] (by kernel_rfl) rfl rfl trivial (fun hHeld => ?_); refine with_tabW D7.tab17 D7.bits17 (fun HT_ HW_ => ?_)
      refine inv_at [0, 1, 2, 3, 4, 5, 6, 7, 8, 9, 10, 11, 12, 13, 14, 15, 16] (fun a0_ b a w' => a = putSel a0_ b [(0, 56, .pointer (some ⟨g, 0, none⟩)), (1, 57, .bool bad), (2, 58, .pointer (some ⟨g2, 0, none⟩)), (3, 59, .pointer (some ⟨g2, 0, none⟩)), (4, 60, .pointer (some ⟨g2, 1, none⟩)), (5, 61, .bool bad), (6, 62, .bool false), (7, 63, .bool false), (8, 64, .pointer (some ⟨g, 0, none⟩)), (9, 65, .int .i64 (lr.length : Int)), (10, 66, .pointer (some ⟨g2, 0, none⟩)), (11, 67, .pointer (some ⟨g2, 0, none⟩)), (12, 68, .pointer (some ⟨g2, 0, none⟩)), (13, 69, .slice Ay lr.length cy), (14, 70, .int .i64 (lr.length : Int)), (15, 71, .bool false), (16, 72, .bool false)] ∧ (Below w.heap.size w w') ∧ (Rd 47 Q w' g lr bad) ∧ (Rd 37 Q w' g2 lr bad) ∧ (w'.cell? ⟨g2, 0, none⟩ = some (.slice Ay lr.length cy)) ∧ (w'.cell? ⟨g2, 1, none⟩ = some (.bool bad))) HT_.out HW_.out (by kernel_rfl) (by kernel_rfl) ?_ ?_ ?_
      · exact ⟨by simp only [putSel, Bool.false_eq_true, if_false], (by repeat (first | (with_reducible first | exact HBB.out | apply below_alloc | apply pw_below_drewN | apply below_drew1) | exact HBB.out)), (by repeat (first | exact RX.out | (with_reducible first | refine Rd.drewN ?_ _ | refine Rd.drew ?_ | refine Rd.alloc ?_ _))), (by repeat (first | exact RY.out | (with_reducible first | refine Rd.drewN ?_ _ | refine Rd.drew ?_ | refine Rd.alloc ?_ _))), CY0.out, CY1.out⟩
      · clear HT_ HW_ hHeld
        clear CY0 CY1 HBB RX RY
        refine steps_cons ?_ ?_
        · intro b a w' hI_ hb_ hon hoff
          refine ⟨_, rfl, fun K hK => ?_⟩
          obtain ⟨ha, Q_HBB, Q_RX, Q_RY, Q_CY0, Q_CY1⟩ := hI_
          have e6 : a.tmps[6]? = some (.pointer (some ⟨g, 0, none⟩)) := by rw [ha]; exact (putSel_off rfl).trans rfl
          replace ha := Aside0.mk ha
          have HBB := Aside0.mk Q_HBB
          have RX := Aside0.mk Q_RX
          have RY := Aside0.mk Q_RY
          have CY0 := Aside0.mk Q_CY0
          have CY1 := Aside0.mk Q_CY1
          refine value_ (w1 := w') (v := .pointer (some ⟨g, 0, none⟩)) (by rfl) rfl ?_ ?_
          · go_simp
            (try simp only [i64_w])
            try rfl
          refine hK.out _ _ ⟨(by rw [ha.out]; exact putSel_upk 0 hb_ rfl rfl rfl), Q_HBB, Q_RX, Q_RY, Q_CY0, Q_CY1⟩
        refine steps_cons ?_ ?_
        · intro b a w' hI_ hb_ hon hoff
          refine ⟨_, rfl, fun K hK => ?_⟩
          obtain ⟨ha, Q_HBB, Q_RX, Q_RY, Q_CY0, Q_CY1⟩ := hI_
          have e56 : a.tmps[56]? = some (.pointer (some ⟨g, 0, none⟩)) := by rw [ha]; exact putSel_on (e := (0, 56, .pointer (some ⟨g, 0, none⟩))) 0 rfl rfl (hon 0 (by kernel_rfl)) rfl
          replace ha := Aside0.mk ha
          have HBB := Aside0.mk Q_HBB
          have RX := Aside0.mk Q_RX
          have RY := Aside0.mk Q_RY
          have CY0 := Aside0.mk Q_CY0
          have CY1 := Aside0.mk Q_CY1
          refine goes_ Try.func19 (by kernel_rfl) rfl #[.pointer (some ⟨g, 0, none⟩)] (by rfl) rfl rfl (by first | (simp only [List.map_toArray, List.map_cons, List.map_nil, Act.eval, Array.getD_eq_getD_getElem?, Option.getD_some, e56]; done) | (simp only [List.map_toArray, List.map_cons, List.map_nil, Act.eval, Array.getD_eq_getD_getElem?, Option.getD_some, e56]; rfl)) ?_
          with_reducible refine (bad_calls Q _ g lr bad RX.out).mono ?_
          rintro e w3 ⟨rfl, rfl⟩
          refine ⟨_, rfl, ?_⟩
          refine hK.out _ _ ⟨(by rw [ha.out]; exact putSel_upk 1 hb_ rfl rfl rfl), HBB.out, RX.out, RY.out, CY0.out, CY1.out⟩
        refine steps_cons ?_ ?_
        · intro b a w' hI_ hb_ hon hoff
          refine ⟨_, rfl, fun K hK => ?_⟩
          obtain ⟨ha, Q_HBB, Q_RX, Q_RY, Q_CY0, Q_CY1⟩ := hI_
          have e7 : a.tmps[7]? = some (.pointer (some ⟨g2, 0, none⟩)) := by rw [ha]; exact (putSel_off rfl).trans rfl
          replace ha := Aside0.mk ha
          have HBB := Aside0.mk Q_HBB
          have RX := Aside0.mk Q_RX
          have RY := Aside0.mk Q_RY
          have CY0 := Aside0.mk Q_CY0
          have CY1 := Aside0.mk Q_CY1
          refine value_ (w1 := w') (v := .pointer (some ⟨g2, 0, none⟩)) (by rfl) rfl ?_ ?_
          · go_simp
            (try simp only [i64_w])
            try rfl
          refine hK.out _ _ ⟨(by rw [ha.out]; exact putSel_upk 2 hb_ rfl rfl rfl), Q_HBB, Q_RX, Q_RY, Q_CY0, Q_CY1⟩
        refine steps_cons ?_ ?_
        · intro b a w' hI_ hb_ hon hoff
          refine ⟨_, rfl, fun K hK => ?_⟩
          obtain ⟨ha, Q_HBB, Q_RX, Q_RY, Q_CY0, Q_CY1⟩ := hI_
          have e58 : a.tmps[58]? = some (.pointer (some ⟨g2, 0, none⟩)) := by rw [ha]; exact putSel_on (e := (2, 58, .pointer (some ⟨g2, 0, none⟩))) 2 rfl rfl (hon 2 (by kernel_rfl)) rfl
          replace ha := Aside0.mk ha
          have HBB := Aside0.mk Q_HBB
          have RX := Aside0.mk Q_RX
          have RY := Aside0.mk Q_RY
          have CY0 := Aside0.mk Q_CY0
          have CY1 := Aside0.mk Q_CY1
          refine value_ (w1 := w') (v := .pointer (some ⟨g2, 0, none⟩)) (by rfl) rfl ?_ ?_
          · go_simp
            (try simp only [i64_w])
            try rfl
          refine hK.out _ _ ⟨(by rw [ha.out]; exact putSel_upk 3 hb_ rfl rfl rfl), Q_HBB, Q_RX, Q_RY, Q_CY0, Q_CY1⟩
        refine steps_cons ?_ ?_
        · intro b a w' hI_ hb_ hon hoff
          refine ⟨_, rfl, fun K hK => ?_⟩
          obtain ⟨ha, Q_HBB, Q_RX, Q_RY, Q_CY0, Q_CY1⟩ := hI_
          have e59 : a.tmps[59]? = some (.pointer (some ⟨g2, 0, none⟩)) := by rw [ha]; exact putSel_on (e := (3, 59, .pointer (some ⟨g2, 0, none⟩))) 3 rfl rfl (hon 3 (by kernel_rfl)) rfl
          replace ha := Aside0.mk ha
          have HBB := Aside0.mk Q_HBB
          have RX := Aside0.mk Q_RX
          have RY := Aside0.mk Q_RY
          have CY0 := Aside0.mk Q_CY0
          have CY1 := Aside0.mk Q_CY1
          refine value_ (w1 := w') (v := .pointer (some ⟨g2, 1, none⟩)) (by rfl) rfl ?_ ?_
          · go_simp
            (try simp only [i64_w])
            try rfl
          refine hK.out _ _ ⟨(by rw [ha.out]; exact putSel_upk 4 hb_ rfl rfl rfl), Q_HBB, Q_RX, Q_RY, Q_CY0, Q_CY1⟩
        refine steps_cons ?_ ?_
        · intro b a w' hI_ hb_ hon hoff
          refine ⟨_, rfl, fun K hK => ?_⟩
          obtain ⟨ha, Q_HBB, Q_RX, Q_RY, Q_CY0, Q_CY1⟩ := hI_
          have e60 : a.tmps[60]? = some (.pointer (some ⟨g2, 1, none⟩)) := by rw [ha]; exact putSel_on (e := (4, 60, .pointer (some ⟨g2, 1, none⟩))) 4 rfl rfl (hon 4 (by kernel_rfl)) rfl
          replace ha := Aside0.mk ha
          have HBB := Aside0.mk Q_HBB
          have RX := Aside0.mk Q_RX
          have RY := Aside0.mk Q_RY
          have CY0 := Aside0.mk Q_CY0
          have CY1 := Aside0.mk Q_CY1
          have hcell := CY1.out
          refine value_ (w1 := w') (v := .bool bad) (by rfl) rfl ?_ ?_
          · go_simp
            (try simp only [i64_w])
            try rfl
          refine hK.out _ _ ⟨(by rw [ha.out]; exact putSel_upk 5 hb_ rfl rfl rfl), Q_HBB, Q_RX, Q_RY, Q_CY0, Q_CY1⟩
        refine steps_cons ?_ ?_
        · intro b a w' hI_ hb_ hon hoff
          refine ⟨_, rfl, fun K hK => ?_⟩
          obtain ⟨ha, Q_HBB, Q_RX, Q_RY, Q_CY0, Q_CY1⟩ := hI_
          have e57 : a.tmps[57]? = some (.bool bad) := by rw [ha]; exact putSel_on (e := (1, 57, .bool bad)) 1 rfl rfl (hon 1 (by kernel_rfl)) rfl
          have e61 : a.tmps[61]? = some (.bool bad) := by rw [ha]; exact putSel_on (e := (5, 61, .bool bad)) 5 rfl rfl (hon 5 (by kernel_rfl)) rfl
          replace ha := Aside0.mk ha
          have HBB := Aside0.mk Q_HBB
          have RX := Aside0.mk Q_RX
          have RY := Aside0.mk Q_RY
          have CY0 := Aside0.mk Q_CY0
          have CY1 := Aside0.mk Q_CY1
          refine value_ (w1 := w') (v := .bool false) (by rfl) rfl ?_ ?_
          · go_simp
            (try simp only [i64_w])
            try rfl
          refine hK.out _ _ ⟨(by rw [ha.out]; exact putSel_upk 6 hb_ rfl rfl rfl), Q_HBB, Q_RX, Q_RY, Q_CY0, Q_CY1⟩
        refine steps_cons ?_ ?_
        · intro b a w' hI_ hb_ hon hoff
          refine ⟨_, rfl, fun K hK => ?_⟩
          obtain ⟨ha, Q_HBB, Q_RX, Q_RY, Q_CY0, Q_CY1⟩ := hI_
          have e62 : a.tmps[62]? = some (.bool false) := by rw [ha]; exact putSel_on (e := (6, 62, .bool false)) 6 rfl rfl (hon 6 (by kernel_rfl)) rfl
          replace ha := Aside0.mk ha
          have HBB := Aside0.mk Q_HBB
          have RX := Aside0.mk Q_RX
          have RY := Aside0.mk Q_RY
          have CY0 := Aside0.mk Q_CY0
          have CY1 := Aside0.mk Q_CY1
          refine value_ (w1 := w') (v := .bool false) (by rfl) rfl ?_ ?_
          · go_simp
            (try simp only [i64_w])
            try rfl
          refine hK.out _ _ ⟨(by rw [ha.out]; exact putSel_upk 7 hb_ rfl rfl rfl), Q_HBB, Q_RX, Q_RY, Q_CY0, Q_CY1⟩
        refine steps_cons ?_ ?_
        · intro b a w' hI_ hb_ hon hoff
          refine ⟨_, rfl, fun K hK => ?_⟩
          obtain ⟨ha, Q_HBB, Q_RX, Q_RY, Q_CY0, Q_CY1⟩ := hI_
          have e6 : a.tmps[6]? = some (.pointer (some ⟨g, 0, none⟩)) := by rw [ha]; exact (putSel_off rfl).trans rfl
          have e63 : a.tmps[63]? = some (.bool false) := by rw [ha]; exact putSel_on (e := (7, 63, .bool false)) 7 rfl rfl (hon 7 (by kernel_rfl)) rfl
          replace ha := Aside0.mk ha
          have HBB := Aside0.mk Q_HBB
          have RX := Aside0.mk Q_RX
          have RY := Aside0.mk Q_RY
          have CY0 := Aside0.mk Q_CY0
          have CY1 := Aside0.mk Q_CY1
          refine value_ (w1 := w') (v := .pointer (some ⟨g, 0, none⟩)) (wanted_on rfl rfl rfl (e63.trans (by first | rfl | (simp [*]; done)))) rfl ?_ ?_
          · go_simp
            (try simp only [i64_w])
            try rfl
          refine hK.out _ _ ⟨(by rw [ha.out]; exact putSel_upk 8 hb_ rfl rfl rfl), Q_HBB, Q_RX, Q_RY, Q_CY0, Q_CY1⟩
        refine steps_cons ?_ ?_
        · intro b a w' hI_ hb_ hon hoff
          refine ⟨_, rfl, fun K hK => ?_⟩
          obtain ⟨ha, Q_HBB, Q_RX, Q_RY, Q_CY0, Q_CY1⟩ := hI_
          have e64 : a.tmps[64]? = some (.pointer (some ⟨g, 0, none⟩)) := by rw [ha]; exact putSel_on (e := (8, 64, .pointer (some ⟨g, 0, none⟩))) 8 rfl rfl (hon 8 (by kernel_rfl)) rfl
          have e63 : a.tmps[63]? = some (.bool false) := by rw [ha]; exact putSel_on (e := (7, 63, .bool false)) 7 rfl rfl (hon 7 (by kernel_rfl)) rfl
          replace ha := Aside0.mk ha
          have HBB := Aside0.mk Q_HBB
          have RX := Aside0.mk Q_RX
          have RY := Aside0.mk Q_RY
          have CY0 := Aside0.mk Q_CY0
          have CY1 := Aside0.mk Q_CY1
          refine goes_ Try.func18 (by kernel_rfl) rfl #[.pointer (some ⟨g, 0, none⟩)] (wanted_on rfl rfl rfl (e63.trans (by first | rfl | (simp [*]; done)))) rfl rfl (by first | (simp only [List.map_toArray, List.map_cons, List.map_nil, Act.eval, Array.getD_eq_getD_getElem?, Option.getD_some, e64, e63]; done) | (simp only [List.map_toArray, List.map_cons, List.map_nil, Act.eval, Array.getD_eq_getD_getElem?, Option.getD_some, e64, e63]; rfl)) ?_
          with_reducible refine (left_calls Q _ g lr bad RX.out).mono ?_
          rintro e w3 ⟨rfl, rfl⟩
          refine ⟨_, rfl, ?_⟩
          refine hK.out _ _ ⟨(by rw [ha.out]; exact putSel_upk 9 hb_ rfl rfl rfl), HBB.out, RX.out, RY.out, CY0.out, CY1.out⟩
        refine steps_cons ?_ ?_
        · intro b a w' hI_ hb_ hon hoff
          refine ⟨_, rfl, fun K hK => ?_⟩
          obtain ⟨ha, Q_HBB, Q_RX, Q_RY, Q_CY0, Q_CY1⟩ := hI_
          have e7 : a.tmps[7]? = some (.pointer (some ⟨g2, 0, none⟩)) := by rw [ha]; exact (putSel_off rfl).trans rfl
          have e63 : a.tmps[63]? = some (.bool false) := by rw [ha]; exact putSel_on (e := (7, 63, .bool false)) 7 rfl rfl (hon 7 (by kernel_rfl)) rfl
          replace ha := Aside0.mk ha
          have HBB := Aside0.mk Q_HBB
          have RX := Aside0.mk Q_RX
          have RY := Aside0.mk Q_RY
          have CY0 := Aside0.mk Q_CY0
          have CY1 := Aside0.mk Q_CY1
          refine value_ (w1 := w') (v := .pointer (some ⟨g2, 0, none⟩)) (wanted_on rfl rfl rfl (e63.trans (by first | rfl | (simp [*]; done)))) rfl ?_ ?_
          · go_simp
            (try simp only [i64_w])
            try rfl
          refine hK.out _ _ ⟨(by rw [ha.out]; exact putSel_upk 10 hb_ rfl rfl rfl), Q_HBB, Q_RX, Q_RY, Q_CY0, Q_CY1⟩
        refine steps_cons ?_ ?_
        · intro b a w' hI_ hb_ hon hoff
          refine ⟨_, rfl, fun K hK => ?_⟩
          obtain ⟨ha, Q_HBB, Q_RX, Q_RY, Q_CY0, Q_CY1⟩ := hI_
          have e66 : a.tmps[66]? = some (.pointer (some ⟨g2, 0, none⟩)) := by rw [ha]; exact putSel_on (e := (10, 66, .pointer (some ⟨g2, 0, none⟩))) 10 rfl rfl (hon 10 (by kernel_rfl)) rfl
          have e63 : a.tmps[63]? = some (.bool false) := by rw [ha]; exact putSel_on (e := (7, 63, .bool false)) 7 rfl rfl (hon 7 (by kernel_rfl)) rfl
          replace ha := Aside0.mk ha
          have HBB := Aside0.mk Q_HBB
          have RX := Aside0.mk Q_RX
          have RY := Aside0.mk Q_RY
          have CY0 := Aside0.mk Q_CY0
          have CY1 := Aside0.mk Q_CY1
          refine value_ (w1 := w') (v := .pointer (some ⟨g2, 0, none⟩)) (wanted_on rfl rfl rfl (e63.trans (by first | rfl | (simp [*]; done)))) rfl ?_ ?_
          · go_simp
            (try simp only [i64_w])
            try rfl
          refine hK.out _ _ ⟨(by rw [ha.out]; exact putSel_upk 11 hb_ rfl rfl rfl), Q_HBB, Q_RX, Q_RY, Q_CY0, Q_CY1⟩
        refine steps_cons ?_ ?_
        · intro b a w' hI_ hb_ hon hoff
          refine ⟨_, rfl, fun K hK => ?_⟩
          obtain ⟨ha, Q_HBB, Q_RX, Q_RY, Q_CY0, Q_CY1⟩ := hI_
          have e67 : a.tmps[67]? = some (.pointer (some ⟨g2, 0, none⟩)) := by rw [ha]; exact putSel_on (e := (11, 67, .pointer (some ⟨g2, 0, none⟩))) 11 rfl rfl (hon 11 (by kernel_rfl)) rfl
          have e63 : a.tmps[63]? = some (.bool false) := by rw [ha]; exact putSel_on (e := (7, 63, .bool false)) 7 rfl rfl (hon 7 (by kernel_rfl)) rfl
          replace ha := Aside0.mk ha
          have HBB := Aside0.mk Q_HBB
          have RX := Aside0.mk Q_RX
          have RY := Aside0.mk Q_RY
          have CY0 := Aside0.mk Q_CY0
          have CY1 := Aside0.mk Q_CY1
          refine value_ (w1 := w') (v := .pointer (some ⟨g2, 0, none⟩)) (wanted_on rfl rfl rfl (e63.trans (by first | rfl | (simp [*]; done)))) rfl ?_ ?_
          · go_simp
            (try simp only [i64_w])
            try rfl
          refine hK.out _ _ ⟨(by rw [ha.out]; exact putSel_upk 12 hb_ rfl rfl rfl), Q_HBB, Q_RX, Q_RY, Q_CY0, Q_CY1⟩
        refine steps_cons ?_ ?_
        · intro b a w' hI_ hb_ hon hoff
          refine ⟨_, rfl, fun K hK => ?_⟩
          obtain ⟨ha, Q_HBB, Q_RX, Q_RY, Q_CY0, Q_CY1⟩ := hI_
          have e68 : a.tmps[68]? = some (.pointer (some ⟨g2, 0, none⟩)) := by rw [ha]; exact putSel_on (e := (12, 68, .pointer (some ⟨g2, 0, none⟩))) 12 rfl rfl (hon 12 (by kernel_rfl)) rfl
          have e63 : a.tmps[63]? = some (.bool false) := by rw [ha]; exact putSel_on (e := (7, 63, .bool false)) 7 rfl rfl (hon 7 (by kernel_rfl)) rfl
          replace ha := Aside0.mk ha
          have HBB := Aside0.mk Q_HBB
          have RX := Aside0.mk Q_RX
          have RY := Aside0.mk Q_RY
          have CY0 := Aside0.mk Q_CY0
          have CY1 := Aside0.mk Q_CY1
          have hcell := CY0.out
          refine value_ (w1 := w') (v := .slice Ay lr.length cy) (wanted_on rfl rfl rfl (e63.trans (by first | rfl | (simp [*]; done)))) rfl ?_ ?_
          · go_simp
            (try simp only [i64_w])
            try rfl
          refine hK.out _ _ ⟨(by rw [ha.out]; exact putSel_upk 13 hb_ rfl rfl rfl), Q_HBB, Q_RX, Q_RY, Q_CY0, Q_CY1⟩
        refine steps_cons ?_ ?_
        · intro b a w' hI_ hb_ hon hoff
          refine ⟨_, rfl, fun K hK => ?_⟩
          obtain ⟨ha, Q_HBB, Q_RX, Q_RY, Q_CY0, Q_CY1⟩ := hI_
          have e69 : a.tmps[69]? = some (.slice Ay lr.length cy) := by rw [ha]; exact putSel_on (e := (13, 69, .slice Ay lr.length cy)) 13 rfl rfl (hon 13 (by kernel_rfl)) rfl
          have e63 : a.tmps[63]? = some (.bool false) := by rw [ha]; exact putSel_on (e := (7, 63, .bool false)) 7 rfl rfl (hon 7 (by kernel_rfl)) rfl
          replace ha := Aside0.mk ha
          have HBB := Aside0.mk Q_HBB
          have RX := Aside0.mk Q_RX
          have RY := Aside0.mk Q_RY
          have CY0 := Aside0.mk Q_CY0
          have CY1 := Aside0.mk Q_CY1
          refine value_ (w1 := w') (v := .int .i64 (lr.length : Int)) (wanted_on rfl rfl rfl (e63.trans (by first | rfl | (simp [*]; done)))) rfl ?_ ?_
          · go_simp
            (try simp only [i64_w])
            try rfl
          refine hK.out _ _ ⟨(by rw [ha.out]; exact putSel_upk 14 hb_ rfl rfl rfl), Q_HBB, Q_RX, Q_RY, Q_CY0, Q_CY1⟩
        refine steps_cons ?_ ?_
        · intro b a w' hI_ hb_ hon hoff
          refine ⟨_, rfl, fun K hK => ?_⟩
          obtain ⟨ha, Q_HBB, Q_RX, Q_RY, Q_CY0, Q_CY1⟩ := hI_
          have e65 : a.tmps[65]? = some (.int .i64 (lr.length : Int)) := by rw [ha]; exact putSel_on (e := (9, 65, .int .i64 (lr.length : Int))) 9 rfl rfl (hon 9 (by kernel_rfl)) rfl
          have e70 : a.tmps[70]? = some (.int .i64 (lr.length : Int)) := by rw [ha]; exact putSel_on (e := (14, 70, .int .i64 (lr.length : Int))) 14 rfl rfl (hon 14 (by kernel_rfl)) rfl
          have e63 : a.tmps[63]? = some (.bool false) := by rw [ha]; exact putSel_on (e := (7, 63, .bool false)) 7 rfl rfl (hon 7 (by kernel_rfl)) rfl
          replace ha := Aside0.mk ha
          have HBB := Aside0.mk Q_HBB
          have RX := Aside0.mk Q_RX
          have RY := Aside0.mk Q_RY
          have CY0 := Aside0.mk Q_CY0
          have CY1 := Aside0.mk Q_CY1
          refine value_ (w1 := w') (v := .bool false) (wanted_on rfl rfl rfl (e63.trans (by first | rfl | (simp [*]; done)))) rfl ?_ ?_
          · go_simp
            (try simp only [i64_w])
            try rfl
          refine hK.out _ _ ⟨(by rw [ha.out]; exact putSel_upk 15 hb_ rfl rfl rfl), Q_HBB, Q_RX, Q_RY, Q_CY0, Q_CY1⟩
        refine steps_cons ?_ ?_
        · intro b a w' hI_ hb_ hon hoff
          refine ⟨_, rfl, fun K hK => ?_⟩
          obtain ⟨ha, Q_HBB, Q_RX, Q_RY, Q_CY0, Q_CY1⟩ := hI_
          have e63 : a.tmps[63]? = some (.bool false) := by rw [ha]; exact putSel_on (e := (7, 63, .bool false)) 7 rfl rfl (hon 7 (by kernel_rfl)) rfl
          have e71 : a.tmps[71]? = some (.bool false) := by rw [ha]; exact putSel_on (e := (15, 71, .bool false)) 15 rfl rfl (hon 15 (by kernel_rfl)) rfl
          replace ha := Aside0.mk ha
          have HBB := Aside0.mk Q_HBB
          have RX := Aside0.mk Q_RX
          have RY := Aside0.mk Q_RY
          have CY0 := Aside0.mk Q_CY0
          have CY1 := Aside0.mk Q_CY1
          refine value_ (w1 := w') (v := .bool false) (by rfl) rfl ?_ ?_
          · go_simp
            (try simp only [i64_w])
            try rfl
          refine hK.out _ _ ⟨(by rw [ha.out]; exact putSel_upk 16 hb_ rfl rfl rfl), Q_HBB, Q_RX, Q_RY, Q_CY0, Q_CY1⟩
        exact steps_nil
      rintro b a wz hall ⟨ha, Q_HBB, Q_RX, Q_RY, Q_CY0, Q_CY1⟩
      clear CY0 CY1 HBB RX RY
      have hb0_ := hall 0 (by kernel_rfl)
      have hb1_ := hall 1 (by kernel_rfl)
      have hb2_ := hall 2 (by kernel_rfl)
      have hb3_ := hall 3 (by kernel_rfl)
      have hb4_ := hall 4 (by kernel_rfl)
      have hb5_ := hall 5 (by kernel_rfl)
      have hb6_ := hall 6 (by kernel_rfl)
      have hb7_ := hall 7 (by kernel_rfl)
      have hb8_ := hall 8 (by kernel_rfl)
      have hb9_ := hall 9 (by kernel_rfl)
      have hb10_ := hall 10 (by kernel_rfl)
      have hb11_ := hall 11 (by kernel_rfl)
      have hb12_ := hall 12 (by kernel_rfl)
      have hb13_ := hall 13 (by kernel_rfl)
      have hb14_ := hall 14 (by kernel_rfl)
      have hb15_ := hall 15 (by kernel_rfl)
      have hb16_ := hall 16 (by kernel_rfl)
      subst ha
      simp only [putSel, hb0_, hb1_, hb2_, hb3_, hb4_, hb5_, hb6_, hb7_, hb8_, hb9_, hb10_, hb11_, hb12_, hb13_, hb14_, hb15_, hb16_, if_true, Act.put, List.setIfInBounds_toArray, List.set_cons_zero, List.set_cons_succ]
      have HBB := Aside0.mk Q_HBB
      clear Q_HBB
      have RX := Aside0.mk Q_RX
      clear Q_RX
      have RY := Aside0.mk Q_RY
      clear Q_RY
      have CY0 := Aside0.mk Q_CY0
      clear Q_CY0
      have CY1 := Aside0.mk Q_CY1
      clear Q_CY1
      clear hall hb0_ hb1_ hb2_ hb3_ hb4_ hb5_ hb6_ hb7_ hb8_ hb9_ hb10_ hb11_ hb12_ hb13_ hb14_ hb15_ hb16_
      go_wp2_with fail
      go_roundg (m - (i + 1))
      case measure => have := HE.out; omega
      case rel => exact ⟨i + 1, lr, bad, by go_num, ⟨by omega⟩, HBY, ⟨(by repeat (first | exact RX.out | (with_reducible first | refine Rd.drewN ?_ _ | refine Rd.drew ?_ | refine Rd.alloc ?_ _)))⟩, ⟨(by repeat (first | exact RY.out | (with_reducible first | refine Rd.drewN ?_ _ | refine Rd.drew ?_ | refine Rd.alloc ?_ _)))⟩, ⟨(by repeat (first | (with_reducible first | exact HBB.out | apply below_alloc | apply pw_below_drewN | apply below_drew1) | exact HBB.out))⟩⟩
    · obtain rfl : i = m := by omega
      by_cases hl : i < l.length
      · have hb1 : decide ((i : Int) < (l.length : Int)) = true := decide_eq_true (by omega)
        have hb2 : decide ((i : Int) < 40) = false := decide_eq_false (by have := HM.out; omega)
        go_wp2
        go_ret
        exact ⟨rfl, (by repeat (first | (with_reducible first | exact HB.out | apply below_alloc | apply pw_below_drewN | apply below_drew1) | exact HB.out))⟩
      · have hb1 : decide ((i : Int) < (l.length : Int)) = false := decide_eq_false (by omega)
        go_wp2
        go_ret
        exact ⟨rfl, (by repeat (first | (with_reducible first | exact HB.out | apply below_alloc | apply pw_below_drewN | apply below_drew1) | exact HB.out))⟩
end Go.Proofs.Ytnkaighdajickaa.Num

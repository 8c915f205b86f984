/- The statement NumMany: the walk of the law. -/
import Derived.Test.YtnkaighdajickaaN6
namespace Go.Proofs.Ytnkaighdajickaa.Num
open Go.RowKit Go.Proofs.YtnkaighdajickaaW.PrintWords Go.Proofs.YtnkaighdajickaaW.PrintLast Go.Proofs.YtnkaighdajickaaW.PrintMore
set_option linter.unusedVariables false
set_option linter.unusedSimpArgs false

open Go.Proofs.YtnkaighdajickaaW.PrintLast
def D6.T16 : Bool × List (List Nat × List Nat) := (true, [([], []), ([0], [0]), ([], []), ([], []), ([2, 3], [2, 3]), ([4], [4]), ([1, 5], [1, 5]), ([6, 1], [6]), ([7], [7]), ([8, 7, 7], [7, 8]), ([7], [7]), ([9, 10, 7], [7, 9, 10]), ([7, 11], [7, 11])])
def D6.B16 : List Nat := [0, 1, 0, 0, 12, 28, 63, 127, 255, 511, 255, 2047, 4095]
theorem D6.tab16 : rtab .any (opsOf Try.f6 16) = D6.T16 := by kernel_rfl
theorem D6.bits16 : waitsOk D6.T16.2 D6.B16 = true := by kernel_rfl
theorem many_law (A1 : Option Addr) (len1 cap1 : Nat) (z1 : List Int) (w : World) (w1 : (A1 = none ∧ len1 = 0 ∧ cap1 = 0 ∧ z1 = []) ∨ ∃ x, A1 = some x ∧ len1 ≤ cap1 ∧ cap1 ≤ maxLen ∧ z1.length = cap1 ∧ (∀ i, i < z1.length → w.cell? (x.add i) = some (.int .i64 (z1.getD i 0))) ∧ ∀ n ∈ z1, (Lit.int .i64 n).wf = true) (y1 : len1 * 8 ≤ 140737488351232) :
    Calls Try.prog 6 #[.slice A1 len1 cap1] w fun e w' => e = .returned (.bool true) ∧ Below w.heap.size w w' := by
  obtain ⟨l, rfl, hr, hm1, hw, hc1⟩ := ReadsInt.ofRowC w1
  have hC := Kd.C_of_reads (d := (0 : Int)) (h1 := fun _ => rfl) hr
  have HR := Aside0.mk hC
  have HW := Aside0.mk (show ∀ x ∈ l, i64 x from fun x hx => wf_range (hw x hx))
  clear w1 hr hw hC y1
  obtain ⟨m, hm⟩ : ∃ m, m = min 40 l.length := ⟨_, rfl⟩
  have HM := Aside0.mk (show m = 40 ∨ m = l.length by omega)
  have hm40 : m ≤ 40 := by omega
  have hml : m ≤ l.length := by omega
  have hmc := encs_len (l := l.take m) (fun x hx => HW.out x (List.mem_of_mem_take hx))
  rw [List.length_take, Nat.min_eq_left hml] at hmc
  have HLEN := Aside0.mk (show ∀ j, j ≤ m → (encs (l.take j)).length ≤ 400 by
    intro j hj
    have h := encs_len (l := l.take j) (fun x hx => HW.out x (List.mem_of_mem_take hx))
    rw [List.length_take] at h
    omega)
  clear hm hmc
  go_enter Try.func6, Try.ntmps6
  go_upto_block 0 with (first | (go_at_call 11; refine (shown_calls _).mono ?_; rintro e w1 ⟨rfl, hb⟩; have HB := Aside0.mk hb; clear hb) | ((with_reducible refine gate_dst (N := 10) rfl ?_); refine Kd.R_lit (Kd.int .u8) (w0 := w) w.heap.size 5 ?hg (N := 10) ?hd (xs := []) (inner := []) (ok := fun _ => True) (okp := fun _ => True) ?hr ?hp (fun _ hk => hk) trivial ?hB ?hS (by simp) ?_; (case hd => rfl); (case hg => rfl); (case hr => first | (go_simp; done) | (go_simp; rfl)); (case hp => exact (Reps.none _ _)); (case hB => exact (by repeat (first | (with_reducible first | exact HB.out | apply below_alloc | apply pw_below_drewN | apply below_drew1) | exact HB.out))); (case hS => exact (below_size (by repeat (first | (with_reducible first | exact HB.out | apply below_alloc | apply pw_below_drewN | apply below_drew1) | exact HB.out)))); intro v2 w2 ho hb hg hat; have n0_ := Aside0.mk (hb); have n1_ := Aside0.mk (ho); clear HB; have HB := n0_; have HO2 := n1_; clear n0_ n1_; clear ho hb hg hat))
  go_cut [4, 5] (fun v4 v5 wc => ∃ n : Nat, v5 = .int .i64 (n : Int) ∧ Aside0 (n = (encs (l.take m)).length) ∧ Aside0 (Lst U8 wc v4 (encs (l.take m))) ∧ Aside0 (Below w.heap.size w wc))
  case first =>
    go_wp2_with fail
    go_loopg [4, 5, 6] m (fun k v4 v5 v6 w' => ∃ i n : Nat, v6 = .int .i64 (i : Int) ∧ v5 = .int .i64 (n : Int) ∧ Aside0 (i + k = m) ∧ Aside0 (n = (encs (l.take i)).length) ∧ Aside0 (Lst U8 w' v4 (encs (l.take i))) ∧ Aside0 (Below w.heap.size w w'))
    case atStart => exact ⟨0, 0, rfl, rfl, ⟨by omega⟩, ⟨rfl⟩, ⟨Lst.of_R HO2.out⟩, HB⟩
    case round =>
      obtain ⟨i, n, rfl, rfl, HE, HN, HL, HB⟩ := hrel
      have him : i ≤ m := by have := HE.out; omega
      have hn4 : n ≤ 400 := by rw [HN.out]; exact HLEN.out i him
      by_cases hlt : i < m
      · have hx64 := getD_mem HW.out (show i < l.length by omega)
        obtain ⟨ad, rfl, hx⟩ := Kd.at_int HR.out (i : Int) (by omega) (by omega)
        rw [Int.toNat_natCast] at hx
        obtain ⟨x, hxd⟩ : ∃ x, x = rd l (i : Int) := ⟨_, rfl⟩
        have hxd' : l.getD i 0 = x := by rw [hxd]; rfl
        rw [← hxd] at hx; rw [hxd'] at hx64
        have HX := Aside0.mk hx
        have HXD := Aside0.mk hxd'
        have hcell := pw_cell_below HB.out hx
        clear hxd hxd' hx
        obtain ⟨hx1, hx2⟩ := hx64
        have hb1 : decide ((i : Int) < (l.length : Int)) = true := decide_eq_true (by omega)
        have hb2 : decide ((i : Int) < 40) = true := decide_eq_true (by omega)
        obtain ⟨lx, hlx⟩ : ∃ lx, lx = enc x := ⟨_, rfl⟩
        have hl10 : lx.length ≤ 10 := by rw [hlx]; exact enc_len ⟨hx1, hx2⟩
        have HLX := Aside0.mk hlx
        clear hlx
        go_wp2_with fail
        refine (putL _ (encs (l.take i)) x _ (by repeat (first | exact HL.out | (with_reducible first | refine Lst.drewN ?_ _ | refine Lst.drew ?_ | refine Lst.alloc ?_ _))) hx1 hx2 (by have := HLEN.out i (by omega); omega)).mono ?_
        rintro e w3 ⟨v1, rfl, hl1, hb⟩
        have HL3 := Aside0.mk hl1
        have n_ := Aside0.mk (below_step (by repeat (first | (with_reducible first | exact HB.out | apply below_alloc | apply pw_below_drewN | apply below_drew1) | exact HB.out)) hb)
        clear HB HL hb hl1 hcell
        have HB := n_
        clear n_
        have hcell := pw_cell_below HB.out HX.out
        go_wp2_with fail
        refine (putNil_calls lx x _ hx1 hx2 HLX.out).mono ?_
        rintro e w4 ⟨A2, c2, rfl, _, _, hb⟩
        have HL4 := Aside0.mk (HL3.out.below hb)
        have n_ := Aside0.mk (below_step (by repeat (first | (with_reducible first | exact HB.out | apply below_alloc | apply pw_below_drewN | apply below_drew1) | exact HB.out)) hb)
        clear HB HL3 hb hcell
        have HB := n_
        clear n_
        go_wp2_with fail
        go_roundg (m - (i + 1))
        case measure => have := HE.out; omega
        case rel => exact ⟨i + 1, n + lx.length, by go_num, by go_num, ⟨by omega⟩, ⟨by rw [encs_snoc l i (by omega), List.length_append, ← HN.out, HXD.out, HLX.out]⟩, ⟨by rw [encs_snoc l i (by omega), HXD.out]; exact (by repeat (first | exact HL4.out | (with_reducible first | refine Lst.drewN ?_ _ | refine Lst.drew ?_ | refine Lst.alloc ?_ _)))⟩, ⟨(by repeat (first | (with_reducible first | exact HB.out | apply below_alloc | apply pw_below_drewN | apply below_drew1) | exact HB.out))⟩⟩
      · obtain rfl : i = m := by omega
        by_cases hl : i < l.length
        · have hb1 : decide ((i : Int) < (l.length : Int)) = true := decide_eq_true (by omega)
          have hb2 : decide ((i : Int) < 40) = false := decide_eq_false (by have := HM.out; omega)
          go_wp2_with fail
          go_meet
          case rel => exact ⟨n, rfl, HN, ⟨(by repeat (first | exact HL.out | (with_reducible first | refine Lst.drewN ?_ _ | refine Lst.drew ?_ | refine Lst.alloc ?_ _)))⟩, ⟨(by repeat (first | (with_reducible first | exact HB.out | apply below_alloc | apply pw_below_drewN | apply below_drew1) | exact HB.out))⟩⟩
        · have hb1 : decide ((i : Int) < (l.length : Int)) = false := decide_eq_false (by omega)
          go_wp2_with fail
          go_meet
          case rel => exact ⟨n, rfl, HN, ⟨(by repeat (first | exact HL.out | (with_reducible first | refine Lst.drewN ?_ _ | refine Lst.drew ?_ | refine Lst.alloc ?_ _)))⟩, ⟨(by repeat (first | (with_reducible first | exact HB.out | apply below_alloc | apply pw_below_drewN | apply below_drew1) | exact HB.out))⟩⟩
  case rest =>
  obtain ⟨n, rfl, HN, HL, HB⟩ := hcut
  obtain ⟨la, hla⟩ : ∃ la, la = encs (l.take m) := ⟨_, rfl⟩
  have HLA := Aside0.mk hla
  rw [← hla] at HN HL
  obtain ⟨A4, c4, rfl, hc4, hC4⟩ := HL.out
  clear hla HL
  obtain rfl := HN.out
  have hla4 : la.length ≤ 400 := by rw [HLA.out]; exact HLEN.out m (Nat.le_refl m)
  have HL := Aside0.mk (Lst.mk hc4 hC4)
  clear hC4
  go_wp2_with fail
  refine (newReaderL _ la _ (by repeat (first | exact HL.out | (with_reducible first | refine Lst.drewN ?_ _ | refine Lst.drew ?_ | refine Lst.alloc ?_ _)))).mono ?_
  rintro e w5 ⟨g, rfl, hI, hb, hg⟩
  have HG := Aside0.mk (show w.heap.size ≤ g from Nat.le_trans ((by repeat (first | (with_reducible first | exact HB.out | apply below_alloc | apply pw_below_drewN | apply below_drew1) | exact HB.out)) : Below w.heap.size w _).size hg)
  obtain ⟨P, HI⟩ : ∃ P, Aside0 (Rd 47 P w5 g la false) := ⟨_, ⟨hI⟩⟩
  have n_ := Aside0.mk (below_step (by repeat (first | (with_reducible first | exact HB.out | apply below_alloc | apply pw_below_drewN | apply below_drew1) | exact HB.out)) hb)
  clear HB hI hb hg HL
  have HB := n_
  clear n_
  go_wp2_with fail
  go_loopg [5, 8] m (fun k v5 v8 w' => ∃ i n : Nat, v8 = .int .i64 (i : Int) ∧ v5 = .int .i64 (n : Int) ∧ Aside0 (i + k = m) ∧ Aside0 (n = (encs ((l.take m).drop i)).length) ∧ Aside0 (Rd 47 P w' g (encs ((l.take m).drop i)) false) ∧ Aside0 (Below w.heap.size w w'))
  case atStart => exact ⟨0, la.length, rfl, rfl, ⟨by omega⟩, ⟨by rw [HLA.out]; rfl⟩, ⟨by rw [List.drop_zero, ← HLA.out]; exact (by repeat (first | exact HI.out | (with_reducible first | refine Rd.drewN ?_ _ | refine Rd.drew ?_ | refine Rd.alloc ?_ _)))⟩, ⟨(by repeat (first | (with_reducible first | exact HB.out | apply below_alloc | apply pw_below_drewN | apply below_drew1) | exact HB.out))⟩⟩
  case round =>
    clear HI HB
    obtain ⟨i, n, rfl, rfl, HE, HN, HI, HB⟩ := hrel
    have him : i ≤ m := by have := HE.out; omega
    by_cases hlt : i < m
    · have hx64 := getD_mem HW.out (show i < l.length by omega)
      have hil : i < l.length := by omega
      obtain ⟨ad, rfl, hx⟩ := Kd.at_int HR.out (i : Int) (by omega) (by omega)
      rw [Int.toNat_natCast] at hx
      have hd := encs_drop l i m hlt hml
      obtain ⟨x, hxd⟩ : ∃ x, x = rd l (i : Int) := ⟨_, rfl⟩
      have hxd' : l.getD i 0 = x := by rw [hxd]; rfl
      rw [← hxd] at hx; rw [hxd'] at hx64 hd
      have HX := Aside0.mk hx
      have HXD := Aside0.mk hxd'
      have hcell := pw_cell_below HB.out hx
      clear hxd hxd' hx
      have HX64 := Aside0.mk hx64
      obtain ⟨hx1, hx2⟩ := hx64
      have hb1 : decide ((i : Int) < (l.length : Int)) = true := decide_eq_true (by omega)
      have hb2 : decide ((i : Int) < 40) = true := decide_eq_true (by omega)
      obtain ⟨lx, hlx⟩ : ∃ lx, lx = enc x := ⟨_, rfl⟩
      have hl10 : lx.length ≤ 10 := by rw [hlx]; exact enc_len ⟨hx1, hx2⟩
      have HLX := Aside0.mk hlx
      obtain ⟨r, hr⟩ : ∃ r, r = encs ((l.take m).drop (i + 1)) := ⟨_, rfl⟩
      rw [← hlx, ← hr] at hd
      have hn : n = lx.length + r.length := by rw [HN.out, hd, List.length_append]
      have HRR := Aside0.mk hr
      have HRB := Aside0.mk (show isBytes r by rw [hr]; exact encs_bytes _)
      rw [hd] at HI
      have hr4 : r.length ≤ 400 := by
        have h := encs_len (l := (l.take m).drop (i + 1)) (fun x hx => HW.out x (List.mem_of_mem_take (List.mem_of_mem_drop hx)))
        rw [← hr, List.length_drop, List.length_take] at h
        omega
      clear hlx hr hd HN
      go_wp2_with fail
      refine (putNil_calls lx x _ hx1 hx2 HLX.out).mono ?_
      rintro e w6 ⟨A6, c6, rfl, _, _, hb⟩
      have n1_ := Aside0.mk (below_step (by repeat (first | (with_reducible first | exact HB.out | apply below_alloc | apply pw_below_drewN | apply below_drew1) | exact HB.out)) hb)
      have n2_ := Aside0.mk (Rd.below (by repeat (first | exact HI.out | (with_reducible first | refine Rd.drewN ?_ _ | refine Rd.drew ?_ | refine Rd.alloc ?_ _))) hb)
      clear HB HI hb hcell
      have HBB := n1_
      have RA := n2_
      clear n1_ n2_
      have hne : ((r.length : Int) == (n : Int) - (lx.length : Int)) = true := beq_iff_eq.mpr (by omega)
      have hne2 : ((r.length : Int) != (n : Int) - (lx.length : Int)) = false := by rw [bne, hne]; rfl
      have hnl : lx.length ≤ n := by omega
      have hn410 : n ≤ 410 := by omega
      have HNN := Aside0.mk hn
      clear hn
      go_wp2_with fail
      refine start_ (n := 13) (S := fun w' => True) (ds := []) #[false, false, false, false, false, false, false, false, false, false, false, false, false] (by kernel_rfl) rfl rfl trivial (fun hHeld => ?_); refine with_tabW D6.tab16 D6.bits16 (fun HT_ HW_ => ?_)
      refine inv_at [0, 1, 2, 3, 4, 5, 6, 7, 8, 9, 10, 11, 12] (fun a0_ b a w' => a = putSel a0_ b [(0, 67, .pointer (some ⟨g, 0, none⟩)), (1, 68, .int .i64 x), (2, 69, .slice (some ad) l.length cap1), (3, 70, .int .i64 (i : Int)), (4, 71, .pointer (some (ad.add i))), (5, 72, .int .i64 x), (6, 73, .bool false), (7, 74, .bool false), (8, 75, .pointer (some ⟨g, 0, none⟩)), (9, 76, .int .i64 (r.length : Int)), (10, 77, .int .i64 ((n : Int) - (lx.length : Int))), (11, 78, .bool false), (12, 79, .bool false)] ∧ (Below w.heap.size w w') ∧ (b 1 = false → Rd 47 P w' g (lx ++ r) false) ∧ (b 1 = true → Rd 47 P w' g r false)) HT_.out HW_.out (by kernel_rfl) (by kernel_rfl) ?_ ?_ ?_
      · exact ⟨by simp only [putSel, Bool.false_eq_true, if_false], (by repeat (first | (with_reducible first | exact HBB.out | apply below_alloc | apply pw_below_drewN | apply below_drew1) | exact HBB.out)), fun _ => (by repeat (first | exact RA.out | (with_reducible first | refine Rd.drewN ?_ _ | refine Rd.drew ?_ | refine Rd.alloc ?_ _))), fun h_ => absurd h_ (by decide)⟩
      · clear HT_ HW_ hHeld
        clear HBB RA
        refine steps_cons ?_ ?_
        · intro b a w' hI_ hb_ hon hoff
          refine ⟨_, rfl, fun K hK => ?_⟩
          obtain ⟨ha, Q_HBB, Q_RA, Q_RB⟩ := hI_
          have e7 : a.tmps[7]? = some (.pointer (some ⟨g, 0, none⟩)) := by rw [ha]; exact (putSel_off rfl).trans rfl
          replace ha := Aside0.mk ha
          have HBB := Aside0.mk Q_HBB
          have RA := Aside0.mk (Q_RA (hoff 1 (by kernel_rfl)))
          refine value_ (w1 := w') (v := .pointer (some ⟨g, 0, none⟩)) (by rfl) rfl ?_ ?_
          · go_simp
            (try simp only [i64_w])
            try rfl
          refine hK.out _ _ ⟨(by rw [ha.out]; exact putSel_upk 0 hb_ rfl rfl rfl), Q_HBB, Q_RA, fun h0_ => absurd ((hoff 1 (by kernel_rfl)).symm.trans h0_) (by decide)⟩
        refine steps_cons ?_ ?_
        · intro b a w' hI_ hb_ hon hoff
          refine ⟨_, rfl, fun K hK => ?_⟩
          obtain ⟨ha, Q_HBB, Q_RA, Q_RB⟩ := hI_
          have e67 : a.tmps[67]? = some (.pointer (some ⟨g, 0, none⟩)) := by rw [ha]; exact putSel_on (e := (0, 67, .pointer (some ⟨g, 0, none⟩))) 0 rfl rfl (hon 0 (by kernel_rfl)) rfl
          replace ha := Aside0.mk ha
          have HBB := Aside0.mk Q_HBB
          have RA := Aside0.mk (Q_RA hb_)
          refine goes_ Try.func17 (by kernel_rfl) rfl #[.pointer (some ⟨g, 0, none⟩)] (by rfl) rfl rfl (by first | (simp only [List.map_toArray, List.map_cons, List.map_nil, Act.eval, Array.getD_eq_getD_getElem?, Option.getD_some, e67]; done) | (simp only [List.map_toArray, List.map_cons, List.map_nil, Act.eval, Array.getD_eq_getD_getElem?, Option.getD_some, e67]; rfl)) ?_
          with_reducible refine (numNext x r P _ g (lx ++ r) false RA.out (by rw [HLX.out]) HX64.out HRB.out).mono ?_
          rintro e w3 ⟨rfl, hI_, hb_2, hk_⟩
          refine ⟨_, rfl, ?_⟩
          refine hK.out _ _ ⟨(by rw [ha.out]; exact putSel_upk 1 hb_ rfl rfl rfl), HBB.out.trans (hb_2.mono HG.out), fun h0_ => absurd ((up_self b 1).symm.trans h0_) (by decide), fun _ => hI_⟩
        refine steps_cons ?_ ?_
        · intro b a w' hI_ hb_ hon hoff
          refine ⟨_, rfl, fun K hK => ?_⟩
          obtain ⟨ha, Q_HBB, Q_RA, Q_RB⟩ := hI_
          have e0 : a.tmps[0]? = some (.slice (some ad) l.length cap1) := by rw [ha]; exact (putSel_off rfl).trans rfl
          replace ha := Aside0.mk ha
          have HBB := Aside0.mk Q_HBB
          refine value_ (w1 := w') (v := .slice (some ad) l.length cap1) (by rfl) rfl ?_ ?_
          · go_simp
            (try simp only [i64_w])
            try rfl
          refine hK.out _ _ ⟨(by rw [ha.out]; exact putSel_upk 2 hb_ rfl rfl rfl), Q_HBB, Q_RA, Q_RB⟩
        refine steps_cons ?_ ?_
        · intro b a w' hI_ hb_ hon hoff
          refine ⟨_, rfl, fun K hK => ?_⟩
          obtain ⟨ha, Q_HBB, Q_RA, Q_RB⟩ := hI_
          have e8 : a.tmps[8]? = some (.int .i64 (i : Int)) := by rw [ha]; exact (putSel_off rfl).trans rfl
          replace ha := Aside0.mk ha
          have HBB := Aside0.mk Q_HBB
          refine value_ (w1 := w') (v := .int .i64 (i : Int)) (by rfl) rfl ?_ ?_
          · go_simp
            (try simp only [i64_w])
            try rfl
          refine hK.out _ _ ⟨(by rw [ha.out]; exact putSel_upk 3 hb_ rfl rfl rfl), Q_HBB, Q_RA, Q_RB⟩
        refine steps_cons ?_ ?_
        · intro b a w' hI_ hb_ hon hoff
          refine ⟨_, rfl, fun K hK => ?_⟩
          obtain ⟨ha, Q_HBB, Q_RA, Q_RB⟩ := hI_
          have e69 : a.tmps[69]? = some (.slice (some ad) l.length cap1) := by rw [ha]; exact putSel_on (e := (2, 69, .slice (some ad) l.length cap1)) 2 rfl rfl (hon 2 (by kernel_rfl)) rfl
          have e70 : a.tmps[70]? = some (.int .i64 (i : Int)) := by rw [ha]; exact putSel_on (e := (3, 70, .int .i64 (i : Int))) 3 rfl rfl (hon 3 (by kernel_rfl)) rfl
          replace ha := Aside0.mk ha
          have HBB := Aside0.mk Q_HBB
          refine value_ (w1 := w') (v := .pointer (some (ad.add i))) (by rfl) rfl ?_ ?_
          · go_simp
            (try simp only [i64_w])
            try rfl
          refine hK.out _ _ ⟨(by rw [ha.out]; exact putSel_upk 4 hb_ rfl rfl rfl), Q_HBB, Q_RA, Q_RB⟩
        refine steps_cons ?_ ?_
        · intro b a w' hI_ hb_ hon hoff
          refine ⟨_, rfl, fun K hK => ?_⟩
          obtain ⟨ha, Q_HBB, Q_RA, Q_RB⟩ := hI_
          have e71 : a.tmps[71]? = some (.pointer (some (ad.add i))) := by rw [ha]; exact putSel_on (e := (4, 71, .pointer (some (ad.add i)))) 4 rfl rfl (hon 4 (by kernel_rfl)) rfl
          replace ha := Aside0.mk ha
          have HBB := Aside0.mk Q_HBB
          have hcell := pw_cell_below HBB.out HX.out
          refine value_ (w1 := w') (v := .int .i64 x) (by rfl) rfl ?_ ?_
          · go_simp
            (try simp only [i64_w])
            try rfl
          refine hK.out _ _ ⟨(by rw [ha.out]; exact putSel_upk 5 hb_ rfl rfl rfl), Q_HBB, Q_RA, Q_RB⟩
        refine steps_cons ?_ ?_
        · intro b a w' hI_ hb_ hon hoff
          refine ⟨_, rfl, fun K hK => ?_⟩
          obtain ⟨ha, Q_HBB, Q_RA, Q_RB⟩ := hI_
          have e68 : a.tmps[68]? = some (.int .i64 x) := by rw [ha]; exact putSel_on (e := (1, 68, .int .i64 x)) 1 rfl rfl (hon 1 (by kernel_rfl)) rfl
          have e72 : a.tmps[72]? = some (.int .i64 x) := by rw [ha]; exact putSel_on (e := (5, 72, .int .i64 x)) 5 rfl rfl (hon 5 (by kernel_rfl)) rfl
          replace ha := Aside0.mk ha
          have HBB := Aside0.mk Q_HBB
          have RB := Aside0.mk (Q_RB (hon 1 (by kernel_rfl)))
          refine value_ (w1 := w') (v := .bool false) (by rfl) rfl ?_ ?_
          · go_simp
            (try simp only [i64_w])
            try rfl
          refine hK.out _ _ ⟨(by rw [ha.out]; exact putSel_upk 6 hb_ rfl rfl rfl), Q_HBB, fun h0_ => absurd ((hon 1 (by kernel_rfl)).symm.trans h0_) (by decide), Q_RB⟩
        refine steps_cons ?_ ?_
        · intro b a w' hI_ hb_ hon hoff
          refine ⟨_, rfl, fun K hK => ?_⟩
          obtain ⟨ha, Q_HBB, Q_RA, Q_RB⟩ := hI_
          have e73 : a.tmps[73]? = some (.bool false) := by rw [ha]; exact putSel_on (e := (6, 73, .bool false)) 6 rfl rfl (hon 6 (by kernel_rfl)) rfl
          replace ha := Aside0.mk ha
          have HBB := Aside0.mk Q_HBB
          have RB := Aside0.mk (Q_RB (hon 1 (by kernel_rfl)))
          refine value_ (w1 := w') (v := .bool false) (by rfl) rfl ?_ ?_
          · go_simp
            (try simp only [i64_w])
            try rfl
          refine hK.out _ _ ⟨(by rw [ha.out]; exact putSel_upk 7 hb_ rfl rfl rfl), Q_HBB, fun h0_ => absurd ((hon 1 (by kernel_rfl)).symm.trans h0_) (by decide), Q_RB⟩
        refine steps_cons ?_ ?_
        · intro b a w' hI_ hb_ hon hoff
          refine ⟨_, rfl, fun K hK => ?_⟩
          obtain ⟨ha, Q_HBB, Q_RA, Q_RB⟩ := hI_
          have e7 : a.tmps[7]? = some (.pointer (some ⟨g, 0, none⟩)) := by rw [ha]; exact (putSel_off rfl).trans rfl
          have e74 : a.tmps[74]? = some (.bool false) := by rw [ha]; exact putSel_on (e := (7, 74, .bool false)) 7 rfl rfl (hon 7 (by kernel_rfl)) rfl
          replace ha := Aside0.mk ha
          have HBB := Aside0.mk Q_HBB
          have RB := Aside0.mk (Q_RB (hon 1 (by kernel_rfl)))
          refine value_ (w1 := w') (v := .pointer (some ⟨g, 0, none⟩)) (wanted_on rfl rfl rfl (e74.trans (by first | rfl | (simp [*]; done)))) rfl ?_ ?_
          · go_simp
            (try simp only [i64_w])
            try rfl
          refine hK.out _ _ ⟨(by rw [ha.out]; exact putSel_upk 8 hb_ rfl rfl rfl), Q_HBB, fun h0_ => absurd ((hon 1 (by kernel_rfl)).symm.trans h0_) (by decide), Q_RB⟩
        refine steps_cons ?_ ?_
        · intro b a w' hI_ hb_ hon hoff
          refine ⟨_, rfl, fun K hK => ?_⟩
          obtain ⟨ha, Q_HBB, Q_RA, Q_RB⟩ := hI_
          have e75 : a.tmps[75]? = some (.pointer (some ⟨g, 0, none⟩)) := by rw [ha]; exact putSel_on (e := (8, 75, .pointer (some ⟨g, 0, none⟩))) 8 rfl rfl (hon 8 (by kernel_rfl)) rfl
          have e74 : a.tmps[74]? = some (.bool false) := by rw [ha]; exact putSel_on (e := (7, 74, .bool false)) 7 rfl rfl (hon 7 (by kernel_rfl)) rfl
          replace ha := Aside0.mk ha
          have HBB := Aside0.mk Q_HBB
          have RB := Aside0.mk (Q_RB (hon 1 (by kernel_rfl)))
          refine goes_ Try.func18 (by kernel_rfl) rfl #[.pointer (some ⟨g, 0, none⟩)] (wanted_on rfl rfl rfl (e74.trans (by first | rfl | (simp [*]; done)))) rfl rfl (by first | (simp only [List.map_toArray, List.map_cons, List.map_nil, Act.eval, Array.getD_eq_getD_getElem?, Option.getD_some, e75, e74]; done) | (simp only [List.map_toArray, List.map_cons, List.map_nil, Act.eval, Array.getD_eq_getD_getElem?, Option.getD_some, e75, e74]; rfl)) ?_
          with_reducible refine (leftW P _ g r false RB.out).mono ?_
          rintro e w3 ⟨rfl, hI_, hb_2, hk_⟩
          refine ⟨_, rfl, ?_⟩
          refine hK.out _ _ ⟨(by rw [ha.out]; exact putSel_upk 9 hb_ rfl rfl rfl), HBB.out.trans (hb_2.mono HG.out), fun h0_ => absurd ((hon 1 (by kernel_rfl)).symm.trans h0_) (by decide), fun _ => hI_⟩
        refine steps_cons ?_ ?_
        · intro b a w' hI_ hb_ hon hoff
          refine ⟨_, rfl, fun K hK => ?_⟩
          obtain ⟨ha, Q_HBB, Q_RA, Q_RB⟩ := hI_
          have e5 : a.tmps[5]? = some (.int .i64 ((n : Int) - (lx.length : Int))) := by rw [ha]; exact (putSel_off rfl).trans rfl
          have e74 : a.tmps[74]? = some (.bool false) := by rw [ha]; exact putSel_on (e := (7, 74, .bool false)) 7 rfl rfl (hon 7 (by kernel_rfl)) rfl
          replace ha := Aside0.mk ha
          have HBB := Aside0.mk Q_HBB
          have RB := Aside0.mk (Q_RB (hon 1 (by kernel_rfl)))
          refine value_ (w1 := w') (v := .int .i64 ((n : Int) - (lx.length : Int))) (wanted_on rfl rfl rfl (e74.trans (by first | rfl | (simp [*]; done)))) rfl ?_ ?_
          · go_simp
            (try simp only [i64_w])
            try rfl
          refine hK.out _ _ ⟨(by rw [ha.out]; exact putSel_upk 10 hb_ rfl rfl rfl), Q_HBB, fun h0_ => absurd ((hon 1 (by kernel_rfl)).symm.trans h0_) (by decide), Q_RB⟩
        refine steps_cons ?_ ?_
        · intro b a w' hI_ hb_ hon hoff
          refine ⟨_, rfl, fun K hK => ?_⟩
          obtain ⟨ha, Q_HBB, Q_RA, Q_RB⟩ := hI_
          have e76 : a.tmps[76]? = some (.int .i64 (r.length : Int)) := by rw [ha]; exact putSel_on (e := (9, 76, .int .i64 (r.length : Int))) 9 rfl rfl (hon 9 (by kernel_rfl)) rfl
          have e77 : a.tmps[77]? = some (.int .i64 ((n : Int) - (lx.length : Int))) := by rw [ha]; exact putSel_on (e := (10, 77, .int .i64 ((n : Int) - (lx.length : Int)))) 10 rfl rfl (hon 10 (by kernel_rfl)) rfl
          have e74 : a.tmps[74]? = some (.bool false) := by rw [ha]; exact putSel_on (e := (7, 74, .bool false)) 7 rfl rfl (hon 7 (by kernel_rfl)) rfl
          replace ha := Aside0.mk ha
          have HBB := Aside0.mk Q_HBB
          have RB := Aside0.mk (Q_RB (hon 1 (by kernel_rfl)))
          refine value_ (w1 := w') (v := .bool false) (wanted_on rfl rfl rfl (e74.trans (by first | rfl | (simp [*]; done)))) rfl ?_ ?_
          · go_simp
            (try simp only [i64_w])
            try rfl
          refine hK.out _ _ ⟨(by rw [ha.out]; exact putSel_upk 11 hb_ rfl rfl rfl), Q_HBB, fun h0_ => absurd ((hon 1 (by kernel_rfl)).symm.trans h0_) (by decide), Q_RB⟩
        refine steps_cons ?_ ?_
        · intro b a w' hI_ hb_ hon hoff
          refine ⟨_, rfl, fun K hK => ?_⟩
          obtain ⟨ha, Q_HBB, Q_RA, Q_RB⟩ := hI_
          have e74 : a.tmps[74]? = some (.bool false) := by rw [ha]; exact putSel_on (e := (7, 74, .bool false)) 7 rfl rfl (hon 7 (by kernel_rfl)) rfl
          have e78 : a.tmps[78]? = some (.bool false) := by rw [ha]; exact putSel_on (e := (11, 78, .bool false)) 11 rfl rfl (hon 11 (by kernel_rfl)) rfl
          replace ha := Aside0.mk ha
          have HBB := Aside0.mk Q_HBB
          have RB := Aside0.mk (Q_RB (hon 1 (by kernel_rfl)))
          refine value_ (w1 := w') (v := .bool false) (by rfl) rfl ?_ ?_
          · go_simp
            (try simp only [i64_w])
            try rfl
          refine hK.out _ _ ⟨(by rw [ha.out]; exact putSel_upk 12 hb_ rfl rfl rfl), Q_HBB, fun h0_ => absurd ((hon 1 (by kernel_rfl)).symm.trans h0_) (by decide), Q_RB⟩
        exact steps_nil
      rintro b a wz hall ⟨ha, Q_HBB, Q_RA, Q_RB⟩
      clear HBB RA
      have hb0_ := hall 0 (by kernel_rfl)
      have hb1_ := hall 1 (by kernel_rfl)
      have hb2_ := hall 2 (by kernel_rfl)
      have hb3_ := hall 3 (by kernel_rfl)
      have hb4_ := hall 4 (by kernel_rfl)
      have hb5_ := hall 5 (by kernel_rfl)
      have hb6_ := hall 6 (by kernel_rfl)
      have hb7_ := hall 7 (by kernel_rfl)
      have hb8_ := hall 8 (by kernel_rfl)
      have hb9_ := hall 9 (by kernel_rfl)
      have hb10_ := hall 10 (by kernel_rfl)
      have hb11_ := hall 11 (by kernel_rfl)
      have hb12_ := hall 12 (by kernel_rfl)
      subst ha
      simp only [putSel, hb0_, hb1_, hb2_, hb3_, hb4_, hb5_, hb6_, hb7_, hb8_, hb9_, hb10_, hb11_, hb12_, if_true, Act.put, List.setIfInBounds_toArray, List.set_cons_zero, List.set_cons_succ]
      have HBB := Aside0.mk Q_HBB
      clear Q_HBB
      clear Q_RA
      have RB := Aside0.mk (Q_RB hb1_)
      clear Q_RB
      clear hall hb0_ hb1_ hb2_ hb3_ hb4_ hb5_ hb6_ hb7_ hb8_ hb9_ hb10_ hb11_ hb12_
      go_wp2_with fail
      go_roundg (m - (i + 1))
      case measure => have := HE.out; omega
      case rel => exact ⟨i + 1, r.length, by go_num, by have := HNN.out; congr 1; omega, ⟨by omega⟩, ⟨by rw [HRR.out]⟩, ⟨by rw [← HRR.out]; exact (by repeat (first | exact RB.out | (with_reducible first | refine Rd.drewN ?_ _ | refine Rd.drew ?_ | refine Rd.alloc ?_ _)))⟩, ⟨(by repeat (first | (with_reducible first | exact HBB.out | apply below_alloc | apply pw_below_drewN | apply below_drew1) | exact HBB.out))⟩⟩
    · obtain rfl : i = m := by omega
      have hz : encs ((l.take i).drop i) = [] := by rw [List.drop_eq_nil_of_le (by rw [List.length_take]; omega)]; rfl
      rw [hz] at HI
      by_cases hl : i < l.length
      · have hb1 : decide ((i : Int) < (l.length : Int)) = true := decide_eq_true (by omega)
        have hb2 : decide ((i : Int) < 40) = false := decide_eq_false (by have := HM.out; omega)
        go_wp2_with fail
        refine (badW P _ g [] false (by repeat (first | exact HI.out | (with_reducible first | refine Rd.drewN ?_ _ | refine Rd.drew ?_ | refine Rd.alloc ?_ _)))).mono ?_
        rintro e w6 ⟨rfl, hI, hb, hk⟩
        go_wp2
        go_ret
        exact ⟨rfl, ((by repeat (first | (with_reducible first | exact HB.out | apply below_alloc | apply pw_below_drewN | apply below_drew1) | exact HB.out)) : Below w.heap.size w _).trans (hb.mono HG.out)⟩
      · have hb1 : decide ((i : Int) < (l.length : Int)) = false := decide_eq_false (by omega)
        go_wp2_with fail
        refine (badW P _ g [] false (by repeat (first | exact HI.out | (with_reducible first | refine Rd.drewN ?_ _ | refine Rd.drew ?_ | refine Rd.alloc ?_ _)))).mono ?_
        rintro e w6 ⟨rfl, hI, hb, hk⟩
        go_wp2
        go_ret
        exact ⟨rfl, ((by repeat (first | (with_reducible first | exact HB.out | apply below_alloc | apply pw_below_drewN | apply below_drew1) | exact HB.out)) : Below w.heap.size w _).trans (hb.mono HG.out)⟩
end Go.Proofs.Ytnkaighdajickaa.Num

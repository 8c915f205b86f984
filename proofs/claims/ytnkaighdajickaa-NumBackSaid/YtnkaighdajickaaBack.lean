/- The statement NumBack: the walk of the law. -/
import Derived.Test.YtnkaighdajickaaN8
namespace Go.Proofs.Ytnkaighdajickaa.Num
open Go.RowKit Go.Proofs.YtnkaighdajickaaW.PrintWords Go.Proofs.YtnkaighdajickaaW.PrintLast Go.Proofs.YtnkaighdajickaaW.PrintMore
set_option linter.unusedVariables false
set_option linter.unusedSimpArgs false

open Go.Proofs.YtnkaighdajickaaW.PrintLast
theorem short_callsT (t s : ByteArray) (w : World) (hs : s.size ≤ 9223372036854775807) (ht : t = sh s) : Calls Try.prog 23 #[.string s] w fun e w' => e = .returned (.string t) ∧ w = w' := by
  subst ht; exact short_calls s w hs
def D9.T17 : Bool × List (List Nat × List Nat) := (true, [([], []), ([0], [0]), ([], []), ([], []), ([2, 3], [2, 3]), ([4], [4]), ([1, 5], [1, 5])])
def D9.B17 : List Nat := [0, 1, 0, 0, 12, 28, 63]
theorem D9.tab17 : rtab .any (opsOf Try.f9 17) = D9.T17 := by kernel_rfl
theorem D9.bits17 : waitsOk D9.T17.2 D9.B17 = true := by kernel_rfl
def D9.T22 : Bool × List (List Nat × List Nat) := (true, [([], []), ([0], [0]), ([], []), ([], []), ([2, 3], [2, 3]), ([4], [4]), ([5, 1], [5]), ([1, 6], [1, 6])])
def D9.B22 : List Nat := [0, 1, 0, 0, 12, 28, 63, 127]
theorem D9.tab22 : rtab .any (opsOf Try.f9 22) = D9.T22 := by kernel_rfl
theorem D9.bits22 : waitsOk D9.T22.2 D9.B22 = true := by kernel_rfl
theorem back_law (A0 : Option Addr) (len0 cap0 : Nat) (z0 : List Int) (vs : Value) (ms : List ByteArray) (w : World) (w0 : (A0 = none ∧ len0 = 0 ∧ cap0 = 0 ∧ z0 = []) ∨ ∃ x, A0 = some x ∧ len0 ≤ cap0 ∧ cap0 ≤ maxLen ∧ z0.length = cap0 ∧ (∀ i, i < z0.length → w.cell? (x.add i) = some (.int .i64 (z0.getD i 0))) ∧ ∀ n ∈ z0, (Lit.int .i64 n).wf = true) (y0 : len0 * 8 ≤ 140737488351232) (y1 : Lst Kd.string w vs ms) (t1 : ∀ x ∈ ms, x.size ≤ maxLen) :
    Calls Try.prog 9 #[.slice A0 len0 cap0, vs] w fun e w' => e = .returned (.bool true) ∧ Below w.heap.size w w' := by
  obtain ⟨l, rfl, hr, hm1, hw, hc1⟩ := ReadsInt.ofRowC w0
  have hC := Kd.C_of_reads (d := (0 : Int)) (h1 := fun _ => rfl) hr
  have HR := Aside0.mk hC
  have HW := Aside0.mk (show ∀ x ∈ l, i64 x from fun x hx => wf_range (hw x hx))
  have HW2 := Aside0.mk t1
  obtain ⟨A1, cap1, rfl, hc2, hC2⟩ := y1
  have HR2 := Aside0.mk hC2
  clear w0 hr hw hC y0 t1 hC2
  obtain ⟨m, hm⟩ : ∃ m, m = min 30 l.length := ⟨_, rfl⟩
  have HM := Aside0.mk (show m = 30 ∨ m = l.length by omega)
  have hm40 : m ≤ 30 := by omega
  have hml : m ≤ l.length := by omega
  clear hm
  obtain ⟨p, hp⟩ : ∃ m, m = min 30 ms.length := ⟨_, rfl⟩
  have HP := Aside0.mk (show p = 30 ∨ p = ms.length by omega)
  have hp40 : p ≤ 30 := by omega
  have hpl : p ≤ ms.length := by omega
  clear hp
  have HLEN := Aside0.mk (show ∀ j, j ≤ m → (encs (l.take j)).length ≤ 300 by
    intro j hj
    have h := encs_len (l := l.take j) (fun x hx => HW.out x (List.mem_of_mem_take hx))
    rw [List.length_take] at h
    omega)
  go_enter Try.func9, Try.ntmps9
  go_upto_block 0 with (first | (go_at_call 11; refine (shown_calls _).mono ?_; rintro e w1 ⟨rfl, hb⟩; have HB := Aside0.mk hb; clear hb) | ((with_reducible refine gate_dst (N := 13) rfl ?_); refine Kd.R_lit (Kd.int .u8) (w0 := w) w.heap.size 5 ?hg (N := 13) ?hd (xs := []) (inner := []) (ok := fun _ => True) (okp := fun _ => True) ?hr ?hp (fun _ hk => hk) trivial ?hB ?hS (by simp) ?_; (case hd => rfl); (case hg => rfl); (case hr => first | (go_simp; done) | (go_simp; rfl)); (case hp => exact (Reps.none _ _)); (case hB => exact (by repeat (first | (with_reducible first | exact HB.out | apply below_alloc | apply pw_below_drewN | apply below_drew1) | exact HB.out))); (case hS => exact (below_size (by repeat (first | (with_reducible first | exact HB.out | apply below_alloc | apply pw_below_drewN | apply below_drew1) | exact HB.out)))); intro v2 w2 ho hb hg hat; have n0_ := Aside0.mk (hb); have n1_ := Aside0.mk (ho); clear HB; have HB := n0_; have HO2 := n1_; clear n0_ n1_; clear ho hb hg hat))
  go_cut [6] (fun v6 wc => Aside0 (Lst U8 wc v6 (encs (l.take m))) ∧ Aside0 (Below w.heap.size w wc))
  case first =>
    go_wp2_with fail
    go_loopg [6, 7] m (fun k v6 v7 w' => ∃ i : Nat, v7 = .int .i64 (i : Int) ∧ Aside0 (i + k = m) ∧ Aside0 (Lst U8 w' v6 (encs (l.take i))) ∧ Aside0 (Below w.heap.size w w'))
    case atStart => exact ⟨0, rfl, ⟨by omega⟩, ⟨Lst.of_R HO2.out⟩, HB⟩
    case round =>
      clear HB HO2
      obtain ⟨i, rfl, HE, HL, HB⟩ := hrel
      have him : i ≤ m := by have := HE.out; omega
      by_cases hlt : i < m
      ·
        have hil : i < l.length := by omega
        have hx64 := getD_mem HW.out hil
        obtain ⟨ad, rfl, hx⟩ := Kd.at_int HR.out (i : Int) (by omega) (by omega)
        rw [Int.toNat_natCast] at hx
        obtain ⟨x, hxd⟩ : ∃ x, x = rd l (i : Int) := ⟨_, rfl⟩
        have hxd' : l.getD i 0 = x := by rw [hxd]; rfl
        rw [← hxd] at hx; rw [hxd'] at hx64
        have HX := Aside0.mk hx
        have HXD := Aside0.mk hxd'
        have HX64 := Aside0.mk hx64
        have hcell := pw_cell_below HB.out hx
        clear hxd hxd' hx
        obtain ⟨hx1, hx2⟩ := hx64
        have hb1 : decide ((i : Int) < (l.length : Int)) = true := decide_eq_true (by omega)
        have hb2 : decide ((i : Int) < 30) = true := decide_eq_true (by omega)
        go_wp2_with fail
        refine (putL _ (encs (l.take i)) x _ (by repeat (first | exact HL.out | (with_reducible first | refine Lst.drewN ?_ _ | refine Lst.drew ?_ | refine Lst.alloc ?_ _))) hx1 hx2 (by have := HLEN.out i (by omega); omega)).mono ?_
        rintro e w3 ⟨v1, rfl, hl1, hb⟩
        have HL4 := Aside0.mk hl1
        have n_ := Aside0.mk (below_step (by repeat (first | (with_reducible first | exact HB.out | apply below_alloc | apply pw_below_drewN | apply below_drew1) | exact HB.out)) hb)
        clear HB HL hb hl1 hcell
        have HB := n_
        clear n_
        go_wp2_with fail
        go_roundg (m - (i + 1))
        case measure => have := HE.out; omega
        case rel => exact ⟨i + 1, by go_num, ⟨by omega⟩, ⟨by rw [encs_snoc l i (by omega), HXD.out]; exact (by repeat (first | exact HL4.out | (with_reducible first | refine Lst.drewN ?_ _ | refine Lst.drew ?_ | refine Lst.alloc ?_ _)))⟩, ⟨(by repeat (first | (with_reducible first | exact HB.out | apply below_alloc | apply pw_below_drewN | apply below_drew1) | exact HB.out))⟩⟩
      · obtain rfl : i = m := by omega
        by_cases hl : i < l.length
        · have hb1 : decide ((i : Int) < (l.length : Int)) = true := decide_eq_true (by omega)
          have hb2 : decide ((i : Int) < 30) = false := decide_eq_false (by have := HM.out; omega)
          go_wp2_with fail
          go_meet
          case rel => exact ⟨⟨(by repeat (first | exact HL.out | (with_reducible first | refine Lst.drewN ?_ _ | refine Lst.drew ?_ | refine Lst.alloc ?_ _)))⟩, ⟨(by repeat (first | (with_reducible first | exact HB.out | apply below_alloc | apply pw_below_drewN | apply below_drew1) | exact HB.out))⟩⟩
        · have hb1 : decide ((i : Int) < (l.length : Int)) = false := decide_eq_false (by omega)
          go_wp2_with fail
          go_meet
          case rel => exact ⟨⟨(by repeat (first | exact HL.out | (with_reducible first | refine Lst.drewN ?_ _ | refine Lst.drew ?_ | refine Lst.alloc ?_ _)))⟩, ⟨(by repeat (first | (with_reducible first | exact HB.out | apply below_alloc | apply pw_below_drewN | apply below_drew1) | exact HB.out))⟩⟩
  case rest =>
  obtain ⟨HL, HB⟩ := hcut
  obtain ⟨la, hla⟩ : ∃ la, la = encs (l.take m) := ⟨_, rfl⟩
  have HLA := Aside0.mk hla
  have hla4 : la.length ≤ 300 := by rw [hla]; exact HLEN.out m (Nat.le_refl m)
  rw [← hla] at HL
  clear hla
  go_upto_block 2 with fail
  go_cut [6] (fun v6 wc => Aside0 (Lst U8 wc v6 (la ++ encTs ((ms.map sh).take p))) ∧ Aside0 (Below w.heap.size w wc))
  case first =>
    go_wp2_with fail
    go_loopg [6, 8] p (fun k v6 v8 w' => ∃ i : Nat, v8 = .int .i64 (i : Int) ∧ Aside0 (i + k = p) ∧ Aside0 (Lst U8 w' v6 (la ++ encTs ((ms.map sh).take i))) ∧ Aside0 (Below w.heap.size w w'))
    case atStart => exact ⟨0, rfl, ⟨by omega⟩, ⟨by rw [List.take_zero]; show Lst U8 _ _ (la ++ []); rw [List.append_nil]; exact (by repeat (first | exact HL.out | (with_reducible first | refine Lst.drewN ?_ _ | refine Lst.drew ?_ | refine Lst.alloc ?_ _)))⟩, ⟨(by repeat (first | (with_reducible first | exact HB.out | apply below_alloc | apply pw_below_drewN | apply below_drew1) | exact HB.out))⟩⟩
    case round =>
      clear HB HL
      obtain ⟨i, rfl, HE, HL, HB⟩ := hrel
      have him : i ≤ p := by have := HE.out; omega
      by_cases hlt : i < p
      ·
        have hil : i < ms.length := by omega
        have hs64 : (ms.getD i ByteArray.empty).size ≤ 9223372036854775807 := by
          rw [List.getD_eq_getElem?_getD, List.getElem?_eq_getElem hil]
          exact Nat.le_trans (HW2.out _ (List.getElem_mem hil)) (by decide)
        obtain ⟨ad, rfl, hx⟩ := Kd.at_string HR2.out (i : Int) (by omega) (by omega)
        rw [Int.toNat_natCast] at hx
        obtain ⟨s, hxd⟩ : ∃ x, x = rdOf ByteArray.empty ms (i : Int) := ⟨_, rfl⟩
        have hxd' : ms.getD i ByteArray.empty = s := by rw [hxd]; rfl
        rw [← hxd] at hx; rw [hxd'] at hs64
        have HX := Aside0.mk hx
        have HXD := Aside0.mk hxd'
        have HS64 := Aside0.mk hs64
        have hcell := pw_cell_below HB.out hx
        clear hxd hxd' hx
        have hb1 : decide ((i : Int) < (ms.length : Int)) = true := decide_eq_true (by omega)
        have hb2 : decide ((i : Int) < 30) = true := decide_eq_true (by omega)
        go_wp2_with fail
        refine (short_calls s _ hs64).mono ?_
        rintro e w3 ⟨rfl, rfl⟩
        go_wp2_with fail
        refine (putTextL _ (la ++ encTs ((ms.map sh).take i)) (sh s) _ (by repeat (first | exact HL.out | (with_reducible first | refine Lst.drewN ?_ _ | refine Lst.drew ?_ | refine Lst.alloc ?_ _))) (by have := sh_all ms i; have := sh_size s; rw [List.length_append]; omega)).mono ?_
        rintro e w3 ⟨v1, rfl, hl1, hb⟩
        have HL4 := Aside0.mk hl1
        have n_ := Aside0.mk (below_step (by repeat (first | (with_reducible first | exact HB.out | apply below_alloc | apply pw_below_drewN | apply below_drew1) | exact HB.out)) hb)
        clear HB HL hb hl1 hcell
        have HB := n_
        clear n_
        go_wp2_with fail
        go_roundg (p - (i + 1))
        case measure => have := HE.out; omega
        case rel => exact ⟨i + 1, by go_num, ⟨by omega⟩, ⟨by rw [encTs_snoc ms i (by omega), HXD.out, ← List.append_assoc]; exact (by repeat (first | exact HL4.out | (with_reducible first | refine Lst.drewN ?_ _ | refine Lst.drew ?_ | refine Lst.alloc ?_ _)))⟩, ⟨(by repeat (first | (with_reducible first | exact HB.out | apply below_alloc | apply pw_below_drewN | apply below_drew1) | exact HB.out))⟩⟩
      · obtain rfl : i = p := by omega
        by_cases hl : i < ms.length
        · have hb1 : decide ((i : Int) < (ms.length : Int)) = true := decide_eq_true (by omega)
          have hb2 : decide ((i : Int) < 30) = false := decide_eq_false (by have := HP.out; omega)
          go_wp2_with fail
          go_meet
          case rel => exact ⟨⟨(by repeat (first | exact HL.out | (with_reducible first | refine Lst.drewN ?_ _ | refine Lst.drew ?_ | refine Lst.alloc ?_ _)))⟩, ⟨(by repeat (first | (with_reducible first | exact HB.out | apply below_alloc | apply pw_below_drewN | apply below_drew1) | exact HB.out))⟩⟩
        · have hb1 : decide ((i : Int) < (ms.length : Int)) = false := decide_eq_false (by omega)
          go_wp2_with fail
          go_meet
          case rel => exact ⟨⟨(by repeat (first | exact HL.out | (with_reducible first | refine Lst.drewN ?_ _ | refine Lst.drew ?_ | refine Lst.alloc ?_ _)))⟩, ⟨(by repeat (first | (with_reducible first | exact HB.out | apply below_alloc | apply pw_below_drewN | apply below_drew1) | exact HB.out))⟩⟩
  case rest =>
  clear HL HB
  obtain ⟨HL, HB⟩ := hcut
  obtain ⟨lt, hlt⟩ : ∃ lt, lt = encTs ((ms.map sh).take p) := ⟨_, rfl⟩
  have HLT := Aside0.mk hlt
  have hlt4 : lt.length ≤ 3300 := by rw [hlt]; have := sh_all ms p; omega
  rw [← hlt] at HL
  clear hlt
  go_wp2_with fail
  refine (newReaderL _ (la ++ lt) _ (by repeat (first | exact HL.out | (with_reducible first | refine Lst.drewN ?_ _ | refine Lst.drew ?_ | refine Lst.alloc ?_ _)))).mono ?_
  rintro e w5 ⟨g, rfl, hI, hb, hg⟩
  have HG := Aside0.mk (show w.heap.size ≤ g from Nat.le_trans ((by repeat (first | (with_reducible first | exact HB.out | apply below_alloc | apply pw_below_drewN | apply below_drew1) | exact HB.out)) : Below w.heap.size w _).size hg)
  obtain ⟨P, HI⟩ : ∃ P, Aside0 (Rd 47 P w5 g (la ++ lt) false) := ⟨_, ⟨hI⟩⟩
  have n_ := Aside0.mk (below_step (by repeat (first | (with_reducible first | exact HB.out | apply below_alloc | apply pw_below_drewN | apply below_drew1) | exact HB.out)) hb)
  clear HB hI hb hg HL
  have HB := n_
  clear n_
  have HBT : Aside0 (isBytes lt) := ⟨by rw [HLT.out]; exact encTs_bytes _⟩
  go_upto_block 4 with fail
  go_cut [9] (fun v9 wc => v9 = .pointer (some ⟨g, 0, none⟩) ∧ Aside0 (Rd 47 P wc g lt false) ∧ Aside0 (Below w.heap.size w wc))
  case first =>
    go_wp2_with fail
    go_loopg [10] m (fun k v10 w' => ∃ i : Nat, v10 = .int .i64 (i : Int) ∧ Aside0 (i + k = m) ∧ Aside0 (Rd 47 P w' g (encs ((l.take m).drop i) ++ lt) false) ∧ Aside0 (Below w.heap.size w w'))
    case atStart => exact ⟨0, rfl, ⟨by omega⟩, ⟨by rw [List.drop_zero, ← HLA.out]; exact (by repeat (first | exact HI.out | (with_reducible first | refine Rd.drewN ?_ _ | refine Rd.drew ?_ | refine Rd.alloc ?_ _)))⟩, ⟨(by repeat (first | (with_reducible first | exact HB.out | apply below_alloc | apply pw_below_drewN | apply below_drew1) | exact HB.out))⟩⟩
    case round =>
      clear HI HB
      obtain ⟨i, rfl, HE, HI, HB⟩ := hrel
      have him : i ≤ m := by have := HE.out; omega
      by_cases hlt : i < m
      ·
        have hil : i < l.length := by omega
        have hx64 := getD_mem HW.out hil
        obtain ⟨ad, rfl, hx⟩ := Kd.at_int HR.out (i : Int) (by omega) (by omega)
        rw [Int.toNat_natCast] at hx
        obtain ⟨x, hxd⟩ : ∃ x, x = rd l (i : Int) := ⟨_, rfl⟩
        have hxd' : l.getD i 0 = x := by rw [hxd]; rfl
        rw [← hxd] at hx; rw [hxd'] at hx64
        have HX := Aside0.mk hx
        have HXD := Aside0.mk hxd'
        have HX64 := Aside0.mk hx64
        have hcell := pw_cell_below HB.out hx
        clear hxd hxd' hx
        obtain ⟨hx1, hx2⟩ := hx64
        have hb1 : decide ((i : Int) < (l.length : Int)) = true := decide_eq_true (by omega)
        have hb2 : decide ((i : Int) < 30) = true := decide_eq_true (by omega)
        have hd := encs_drop l i m hlt hml
        rw [HXD.out] at hd
        obtain ⟨r, hr⟩ : ∃ r, r = encs ((l.take m).drop (i + 1)) ++ lt := ⟨_, rfl⟩
        rw [hd, List.append_assoc, ← hr] at HI
        have HRR := Aside0.mk hr
        have HRB := Aside0.mk (show isBytes r by rw [hr]; exact isBytes_append.2 ⟨encs_bytes _, HBT.out⟩)
        clear hr hd hcell
        have HBB := HB
        have RA := HI
        clear HB HI
        go_wp2_with fail
        refine start_ (n := 7) (S := fun w' => True) (ds := []) #[false, false, false, false, false, false, false] (by kernel_rfl) rfl rfl trivial (fun hHeld => ?_); refine with_tabW D9.tab17 D9.bits17 (fun HT_ HW_ => ?_)
        refine inv_at [0, 1, 2, 3, 4, 5, 6] (fun a0_ b a w' => a = putSel a0_ b [(0, 65, .pointer (some ⟨g, 0, none⟩)), (1, 66, .int .i64 x), (2, 67, .slice (some ad) l.length cap0), (3, 68, .int .i64 (i : Int)), (4, 69, .pointer (some (ad.add i))), (5, 70, .int .i64 x), (6, 71, .bool false)] ∧ (Below w.heap.size w w') ∧ (b 1 = false → Rd 47 P w' g (enc x ++ r) false) ∧ (b 1 = true → Rd 47 P w' g r false)) HT_.out HW_.out (by kernel_rfl) (by kernel_rfl) ?_ ?_ ?_
        · exact ⟨by simp only [putSel, Bool.false_eq_true, if_false], (by repeat (first | (with_reducible first | exact HBB.out | apply below_alloc | apply pw_below_drewN | apply below_drew1) | exact HBB.out)), fun _ => (by repeat (first | exact RA.out | (with_reducible first | refine Rd.drewN ?_ _ | refine Rd.drew ?_ | refine Rd.alloc ?_ _))), fun h_ => absurd h_ (by decide)⟩
        · clear HT_ HW_ hHeld
          clear HBB RA
          refine steps_cons ?_ ?_
          · intro b a w' hI_ hb_ hon hoff
            refine ⟨_, rfl, fun K hK => ?_⟩
            obtain ⟨ha, Q_HBB, Q_RA, Q_RB⟩ := hI_
            have e9 : a.tmps[9]? = some (.pointer (some ⟨g, 0, none⟩)) := by rw [ha]; exact (putSel_off rfl).trans rfl
            replace ha := Aside0.mk ha
            have HBB := Aside0.mk Q_HBB
            have RA := Aside0.mk (Q_RA (hoff 1 (by kernel_rfl)))
            refine value_ (w1 := w') (v := .pointer (some ⟨g, 0, none⟩)) (by rfl) rfl ?_ ?_
            · go_simp
              (try simp only [i64_w])
              try rfl
            refine hK.out _ _ ⟨(by rw [ha.out]; exact putSel_upk 0 hb_ rfl rfl rfl), Q_HBB, Q_RA, fun h0_ => absurd ((hoff 1 (by kernel_rfl)).symm.trans h0_) (by decide)⟩
          refine steps_cons ?_ ?_
          · intro b a w' hI_ hb_ hon hoff
            refine ⟨_, rfl, fun K hK => ?_⟩
            obtain ⟨ha, Q_HBB, Q_RA, Q_RB⟩ := hI_
            have e65 : a.tmps[65]? = some (.pointer (some ⟨g, 0, none⟩)) := by rw [ha]; exact putSel_on (e := (0, 65, .pointer (some ⟨g, 0, none⟩))) 0 rfl rfl (hon 0 (by kernel_rfl)) rfl
            replace ha := Aside0.mk ha
            have HBB := Aside0.mk Q_HBB
            have RA := Aside0.mk (Q_RA hb_)
            refine goes_ Try.func17 (by kernel_rfl) rfl #[.pointer (some ⟨g, 0, none⟩)] (by rfl) rfl rfl (by first | (simp only [List.map_toArray, List.map_cons, List.map_nil, Act.eval, Array.getD_eq_getD_getElem?, Option.getD_some, e65]; done) | (simp only [List.map_toArray, List.map_cons, List.map_nil, Act.eval, Array.getD_eq_getD_getElem?, Option.getD_some, e65]; rfl)) ?_
            with_reducible refine (numNext x r P _ g (enc x ++ r) false RA.out rfl HX64.out HRB.out).mono ?_
            rintro e w3 ⟨rfl, hI_, hb_2, hk_⟩
            refine ⟨_, rfl, ?_⟩
            refine hK.out _ _ ⟨(by rw [ha.out]; exact putSel_upk 1 hb_ rfl rfl rfl), HBB.out.trans (hb_2.mono HG.out), fun h0_ => absurd ((up_self b 1).symm.trans h0_) (by decide), fun _ => hI_⟩
          refine steps_cons ?_ ?_
          · intro b a w' hI_ hb_ hon hoff
            refine ⟨_, rfl, fun K hK => ?_⟩
            obtain ⟨ha, Q_HBB, Q_RA, Q_RB⟩ := hI_
            have e0 : a.tmps[0]? = some (.slice (some ad) l.length cap0) := by rw [ha]; exact (putSel_off rfl).trans rfl
            replace ha := Aside0.mk ha
            have HBB := Aside0.mk Q_HBB
            refine value_ (w1 := w') (v := .slice (some ad) l.length cap0) (by rfl) rfl ?_ ?_
            · go_simp
              (try simp only [i64_w])
              try rfl
            refine hK.out _ _ ⟨(by rw [ha.out]; exact putSel_upk 2 hb_ rfl rfl rfl), Q_HBB, Q_RA, Q_RB⟩
          refine steps_cons ?_ ?_
          · intro b a w' hI_ hb_ hon hoff
            refine ⟨_, rfl, fun K hK => ?_⟩
            obtain ⟨ha, Q_HBB, Q_RA, Q_RB⟩ := hI_
            have e10 : a.tmps[10]? = some (.int .i64 (i : Int)) := by rw [ha]; exact (putSel_off rfl).trans rfl
            replace ha := Aside0.mk ha
            have HBB := Aside0.mk Q_HBB
            refine value_ (w1 := w') (v := .int .i64 (i : Int)) (by rfl) rfl ?_ ?_
            · go_simp
              (try simp only [i64_w])
              try rfl
            refine hK.out _ _ ⟨(by rw [ha.out]; exact putSel_upk 3 hb_ rfl rfl rfl), Q_HBB, Q_RA, Q_RB⟩
          refine steps_cons ?_ ?_
          · intro b a w' hI_ hb_ hon hoff
            refine ⟨_, rfl, fun K hK => ?_⟩
            obtain ⟨ha, Q_HBB, Q_RA, Q_RB⟩ := hI_
            have e67 : a.tmps[67]? = some (.slice (some ad) l.length cap0) := by rw [ha]; exact putSel_on (e := (2, 67, .slice (some ad) l.length cap0)) 2 rfl rfl (hon 2 (by kernel_rfl)) rfl
            have e68 : a.tmps[68]? = some (.int .i64 (i : Int)) := by rw [ha]; exact putSel_on (e := (3, 68, .int .i64 (i : Int))) 3 rfl rfl (hon 3 (by kernel_rfl)) rfl
            replace ha := Aside0.mk ha
            have HBB := Aside0.mk Q_HBB
            refine value_ (w1 := w') (v := .pointer (some (ad.add i))) (by rfl) rfl ?_ ?_
            · go_simp
              (try simp only [i64_w])
              try rfl
            refine hK.out _ _ ⟨(by rw [ha.out]; exact putSel_upk 4 hb_ rfl rfl rfl), Q_HBB, Q_RA, Q_RB⟩
          refine steps_cons ?_ ?_
          · intro b a w' hI_ hb_ hon hoff
            refine ⟨_, rfl, fun K hK => ?_⟩
            obtain ⟨ha, Q_HBB, Q_RA, Q_RB⟩ := hI_
            have e69 : a.tmps[69]? = some (.pointer (some (ad.add i))) := by rw [ha]; exact putSel_on (e := (4, 69, .pointer (some (ad.add i)))) 4 rfl rfl (hon 4 (by kernel_rfl)) rfl
            replace ha := Aside0.mk ha
            have HBB := Aside0.mk Q_HBB
            have hcell := pw_cell_below HBB.out HX.out
            refine value_ (w1 := w') (v := .int .i64 x) (by rfl) rfl ?_ ?_
            · go_simp
              (try simp only [i64_w])
              try rfl
            refine hK.out _ _ ⟨(by rw [ha.out]; exact putSel_upk 5 hb_ rfl rfl rfl), Q_HBB, Q_RA, Q_RB⟩
          refine steps_cons ?_ ?_
          · intro b a w' hI_ hb_ hon hoff
            refine ⟨_, rfl, fun K hK => ?_⟩
            obtain ⟨ha, Q_HBB, Q_RA, Q_RB⟩ := hI_
            have e66 : a.tmps[66]? = some (.int .i64 x) := by rw [ha]; exact putSel_on (e := (1, 66, .int .i64 x)) 1 rfl rfl (hon 1 (by kernel_rfl)) rfl
            have e70 : a.tmps[70]? = some (.int .i64 x) := by rw [ha]; exact putSel_on (e := (5, 70, .int .i64 x)) 5 rfl rfl (hon 5 (by kernel_rfl)) rfl
            replace ha := Aside0.mk ha
            have HBB := Aside0.mk Q_HBB
            have RB := Aside0.mk (Q_RB (hon 1 (by kernel_rfl)))
            refine value_ (w1 := w') (v := .bool false) (by rfl) rfl ?_ ?_
            · go_simp
              (try simp only [i64_w])
              try rfl
            refine hK.out _ _ ⟨(by rw [ha.out]; exact putSel_upk 6 hb_ rfl rfl rfl), Q_HBB, fun h0_ => absurd ((hon 1 (by kernel_rfl)).symm.trans h0_) (by decide), Q_RB⟩
          exact steps_nil
        rintro b a wz hall ⟨ha, Q_HBB, Q_RA, Q_RB⟩
        clear HBB RA
        have hb0_ := hall 0 (by kernel_rfl)
        have hb1_ := hall 1 (by kernel_rfl)
        have hb2_ := hall 2 (by kernel_rfl)
        have hb3_ := hall 3 (by kernel_rfl)
        have hb4_ := hall 4 (by kernel_rfl)
        have hb5_ := hall 5 (by kernel_rfl)
        have hb6_ := hall 6 (by kernel_rfl)
        subst ha
        simp only [putSel, hb0_, hb1_, hb2_, hb3_, hb4_, hb5_, hb6_, if_true, Act.put, List.setIfInBounds_toArray, List.set_cons_zero, List.set_cons_succ]
        have HBB := Aside0.mk Q_HBB
        clear Q_HBB
        clear Q_RA
        have RB := Aside0.mk (Q_RB hb1_)
        clear Q_RB
        clear hall hb0_ hb1_ hb2_ hb3_ hb4_ hb5_ hb6_
        go_wp2_with fail
        go_roundg (m - (i + 1))
        case measure => have := HE.out; omega
        case rel => exact ⟨i + 1, by go_num, ⟨by omega⟩, ⟨by rw [← HRR.out]; exact (by repeat (first | exact RB.out | (with_reducible first | refine Rd.drewN ?_ _ | refine Rd.drew ?_ | refine Rd.alloc ?_ _)))⟩, ⟨(by repeat (first | (with_reducible first | exact HBB.out | apply below_alloc | apply pw_below_drewN | apply below_drew1) | exact HBB.out))⟩⟩
      · obtain rfl : i = m := by omega
        by_cases hl : i < l.length
        · have hb1 : decide ((i : Int) < (l.length : Int)) = true := decide_eq_true (by omega)
          have hb2 : decide ((i : Int) < 30) = false := decide_eq_false (by have := HM.out; omega)
          go_wp2_with fail
          go_meet
          case rel => exact ⟨rfl, ⟨by have h := HI.out; rw [List.drop_eq_nil_of_le (by rw [List.length_take]; omega)] at h; have HI2 : Aside0 (Rd 47 P _ g lt false) := ⟨h⟩; exact (by repeat (first | exact HI2.out | (with_reducible first | refine Rd.drewN ?_ _ | refine Rd.drew ?_ | refine Rd.alloc ?_ _)))⟩, ⟨(by repeat (first | (with_reducible first | exact HB.out | apply below_alloc | apply pw_below_drewN | apply below_drew1) | exact HB.out))⟩⟩
        · have hb1 : decide ((i : Int) < (l.length : Int)) = false := decide_eq_false (by omega)
          go_wp2_with fail
          go_meet
          case rel => exact ⟨rfl, ⟨by have h := HI.out; rw [List.drop_eq_nil_of_le (by rw [List.length_take]; omega)] at h; have HI2 : Aside0 (Rd 47 P _ g lt false) := ⟨h⟩; exact (by repeat (first | exact HI2.out | (with_reducible first | refine Rd.drewN ?_ _ | refine Rd.drew ?_ | refine Rd.alloc ?_ _)))⟩, ⟨(by repeat (first | (with_reducible first | exact HB.out | apply below_alloc | apply pw_below_drewN | apply below_drew1) | exact HB.out))⟩⟩
  case rest =>
  clear HI HB
  obtain ⟨rfl, HI, HB⟩ := hcut
  go_upto_block 6 with fail
  go_cut [9] (fun v9 wc => v9 = .pointer (some ⟨g, 0, none⟩) ∧ Aside0 (Rd 47 P wc g [] false) ∧ Aside0 (Below w.heap.size w wc))
  case first =>
    go_wp2_with fail
    go_loopg [11] p (fun k v11 w' => ∃ i : Nat, v11 = .int .i64 (i : Int) ∧ Aside0 (i + k = p) ∧ Aside0 (Rd 47 P w' g (encTs (((ms.map sh).take p).drop i)) false) ∧ Aside0 (Below w.heap.size w w'))
    case atStart => exact ⟨0, rfl, ⟨by omega⟩, ⟨by rw [List.drop_zero, ← HLT.out]; exact (by repeat (first | exact HI.out | (with_reducible first | refine Rd.drewN ?_ _ | refine Rd.drew ?_ | refine Rd.alloc ?_ _)))⟩, ⟨(by repeat (first | (with_reducible first | exact HB.out | apply below_alloc | apply pw_below_drewN | apply below_drew1) | exact HB.out))⟩⟩
    case round =>
      clear HI HB
      obtain ⟨i, rfl, HE, HI, HB⟩ := hrel
      have him : i ≤ p := by have := HE.out; omega
      by_cases hlt : i < p
      ·
        have hil : i < ms.length := by omega
        have hs64 : (ms.getD i ByteArray.empty).size ≤ 9223372036854775807 := by
          rw [List.getD_eq_getElem?_getD, List.getElem?_eq_getElem hil]
          exact Nat.le_trans (HW2.out _ (List.getElem_mem hil)) (by decide)
        obtain ⟨ad, rfl, hx⟩ := Kd.at_string HR2.out (i : Int) (by omega) (by omega)
        rw [Int.toNat_natCast] at hx
        obtain ⟨s, hxd⟩ : ∃ x, x = rdOf ByteArray.empty ms (i : Int) := ⟨_, rfl⟩
        have hxd' : ms.getD i ByteArray.empty = s := by rw [hxd]; rfl
        rw [← hxd] at hx; rw [hxd'] at hs64
        have HX := Aside0.mk hx
        have HXD := Aside0.mk hxd'
        have HS64 := Aside0.mk hs64
        have hcell := pw_cell_below HB.out hx
        clear hxd hxd' hx
        have hb1 : decide ((i : Int) < (ms.length : Int)) = true := decide_eq_true (by omega)
        have hb2 : decide ((i : Int) < 30) = true := decide_eq_true (by omega)
        have hd := encTs_drop ms i p hlt hpl
        rw [HXD.out] at hd
        obtain ⟨t, ht⟩ : ∃ t, t = sh s := ⟨_, rfl⟩
        have ht100 : t.size ≤ 9223372036854775807 := by rw [ht]; have := sh_size s; omega
        obtain ⟨r, hr⟩ : ∃ r, r = encTs (((ms.map sh).take p).drop (i + 1)) := ⟨_, rfl⟩
        rw [hd, ← hr, ← ht] at HI
        have HRR := Aside0.mk hr
        have HTT := Aside0.mk ht
        have HRB := Aside0.mk (show isBytes r by rw [hr]; exact encTs_bytes _)
        clear hr hd hcell ht
        have HBB := HB
        have RA := HI
        clear HB HI
        go_wp2_with fail
        refine start_ (n := 8) (S := fun w' => True) (ds := []) #[false, false, false, false, false, false, false, false] (by kernel_rfl) rfl rfl trivial (fun hHeld => ?_); refine with_tabW D9.tab22 D9.bits22 (fun HT_ HW_ => ?_)
        refine inv_at [0, 1, 2, 3, 4, 5, 6, 7] (fun a0_ b a w' => a = putSel a0_ b [(0, 82, .pointer (some ⟨g, 0, none⟩)), (1, 83, .string t), (2, 84, .slice (some ad) ms.length cap1), (3, 85, .int .i64 (i : Int)), (4, 86, .pointer (some (ad.add i))), (5, 87, .string s), (6, 88, .string t), (7, 89, .bool false)] ∧ (Below w.heap.size w w') ∧ (b 1 = false → Rd 47 P w' g (encT (bytesOf t) ++ r) false) ∧ (b 1 = true → Rd 47 P w' g r false)) HT_.out HW_.out (by kernel_rfl) (by kernel_rfl) ?_ ?_ ?_
        · exact ⟨by simp only [putSel, Bool.false_eq_true, if_false], (by repeat (first | (with_reducible first | exact HBB.out | apply below_alloc | apply pw_below_drewN | apply below_drew1) | exact HBB.out)), fun _ => (by repeat (first | exact RA.out | (with_reducible first | refine Rd.drewN ?_ _ | refine Rd.drew ?_ | refine Rd.alloc ?_ _))), fun h_ => absurd h_ (by decide)⟩
        · clear HT_ HW_ hHeld
          clear HBB RA
          refine steps_cons ?_ ?_
          · intro b a w' hI_ hb_ hon hoff
            refine ⟨_, rfl, fun K hK => ?_⟩
            obtain ⟨ha, Q_HBB, Q_RA, Q_RB⟩ := hI_
            have e9 : a.tmps[9]? = some (.pointer (some ⟨g, 0, none⟩)) := by rw [ha]; exact (putSel_off rfl).trans rfl
            replace ha := Aside0.mk ha
            have HBB := Aside0.mk Q_HBB
            have RA := Aside0.mk (Q_RA (hoff 1 (by kernel_rfl)))
            refine value_ (w1 := w') (v := .pointer (some ⟨g, 0, none⟩)) (by rfl) rfl ?_ ?_
            · go_simp
              (try simp only [i64_w])
              try rfl
            refine hK.out _ _ ⟨(by rw [ha.out]; exact putSel_upk 0 hb_ rfl rfl rfl), Q_HBB, Q_RA, fun h0_ => absurd ((hoff 1 (by kernel_rfl)).symm.trans h0_) (by decide)⟩
          refine steps_cons ?_ ?_
          · intro b a w' hI_ hb_ hon hoff
            refine ⟨_, rfl, fun K hK => ?_⟩
            obtain ⟨ha, Q_HBB, Q_RA, Q_RB⟩ := hI_
            have e82 : a.tmps[82]? = some (.pointer (some ⟨g, 0, none⟩)) := by rw [ha]; exact putSel_on (e := (0, 82, .pointer (some ⟨g, 0, none⟩))) 0 rfl rfl (hon 0 (by kernel_rfl)) rfl
            replace ha := Aside0.mk ha
            have HBB := Aside0.mk Q_HBB
            have RA := Aside0.mk (Q_RA hb_)
            refine goes_ Try.func20 (by kernel_rfl) rfl #[.pointer (some ⟨g, 0, none⟩)] (by rfl) rfl rfl (by first | (simp only [List.map_toArray, List.map_cons, List.map_nil, Act.eval, Array.getD_eq_getD_getElem?, Option.getD_some, e82]; done) | (simp only [List.map_toArray, List.map_cons, List.map_nil, Act.eval, Array.getD_eq_getD_getElem?, Option.getD_some, e82]; rfl)) ?_
            with_reducible refine (textNext t r P _ g _ false RA.out rfl ht100 HRB.out).mono ?_
            rintro e w3 ⟨rfl, hI_, hb_2, hk_⟩
            refine ⟨_, rfl, ?_⟩
            refine hK.out _ _ ⟨(by rw [ha.out]; exact putSel_upk 1 hb_ rfl rfl rfl), HBB.out.trans (hb_2.mono HG.out), fun h0_ => absurd ((up_self b 1).symm.trans h0_) (by decide), fun _ => hI_⟩
          refine steps_cons ?_ ?_
          · intro b a w' hI_ hb_ hon hoff
            refine ⟨_, rfl, fun K hK => ?_⟩
            obtain ⟨ha, Q_HBB, Q_RA, Q_RB⟩ := hI_
            have e1 : a.tmps[1]? = some (.slice (some ad) ms.length cap1) := by rw [ha]; exact (putSel_off rfl).trans rfl
            replace ha := Aside0.mk ha
            have HBB := Aside0.mk Q_HBB
            refine value_ (w1 := w') (v := .slice (some ad) ms.length cap1) (by rfl) rfl ?_ ?_
            · go_simp
              (try simp only [i64_w])
              try rfl
            refine hK.out _ _ ⟨(by rw [ha.out]; exact putSel_upk 2 hb_ rfl rfl rfl), Q_HBB, Q_RA, Q_RB⟩
          refine steps_cons ?_ ?_
          · intro b a w' hI_ hb_ hon hoff
            refine ⟨_, rfl, fun K hK => ?_⟩
            obtain ⟨ha, Q_HBB, Q_RA, Q_RB⟩ := hI_
            have e11 : a.tmps[11]? = some (.int .i64 (i : Int)) := by rw [ha]; exact (putSel_off rfl).trans rfl
            replace ha := Aside0.mk ha
            have HBB := Aside0.mk Q_HBB
            refine value_ (w1 := w') (v := .int .i64 (i : Int)) (by rfl) rfl ?_ ?_
            · go_simp
              (try simp only [i64_w])
              try rfl
            refine hK.out _ _ ⟨(by rw [ha.out]; exact putSel_upk 3 hb_ rfl rfl rfl), Q_HBB, Q_RA, Q_RB⟩
          refine steps_cons ?_ ?_
          · intro b a w' hI_ hb_ hon hoff
            refine ⟨_, rfl, fun K hK => ?_⟩
            obtain ⟨ha, Q_HBB, Q_RA, Q_RB⟩ := hI_
            have e84 : a.tmps[84]? = some (.slice (some ad) ms.length cap1) := by rw [ha]; exact putSel_on (e := (2, 84, .slice (some ad) ms.length cap1)) 2 rfl rfl (hon 2 (by kernel_rfl)) rfl
            have e85 : a.tmps[85]? = some (.int .i64 (i : Int)) := by rw [ha]; exact putSel_on (e := (3, 85, .int .i64 (i : Int))) 3 rfl rfl (hon 3 (by kernel_rfl)) rfl
            replace ha := Aside0.mk ha
            have HBB := Aside0.mk Q_HBB
            refine value_ (w1 := w') (v := .pointer (some (ad.add i))) (by rfl) rfl ?_ ?_
            · go_simp
              (try simp only [i64_w])
              try rfl
            refine hK.out _ _ ⟨(by rw [ha.out]; exact putSel_upk 4 hb_ rfl rfl rfl), Q_HBB, Q_RA, Q_RB⟩
          refine steps_cons ?_ ?_
          · intro b a w' hI_ hb_ hon hoff
            refine ⟨_, rfl, fun K hK => ?_⟩
            obtain ⟨ha, Q_HBB, Q_RA, Q_RB⟩ := hI_
            have e86 : a.tmps[86]? = some (.pointer (some (ad.add i))) := by rw [ha]; exact putSel_on (e := (4, 86, .pointer (some (ad.add i)))) 4 rfl rfl (hon 4 (by kernel_rfl)) rfl
            replace ha := Aside0.mk ha
            have HBB := Aside0.mk Q_HBB
            have hcell := pw_cell_below HBB.out HX.out
            refine value_ (w1 := w') (v := .string s) (by rfl) rfl ?_ ?_
            · go_simp
              (try simp only [i64_w])
              try rfl
            refine hK.out _ _ ⟨(by rw [ha.out]; exact putSel_upk 5 hb_ rfl rfl rfl), Q_HBB, Q_RA, Q_RB⟩
          refine steps_cons ?_ ?_
          · intro b a w' hI_ hb_ hon hoff
            refine ⟨_, rfl, fun K hK => ?_⟩
            obtain ⟨ha, Q_HBB, Q_RA, Q_RB⟩ := hI_
            have e87 : a.tmps[87]? = some (.string s) := by rw [ha]; exact putSel_on (e := (5, 87, .string s)) 5 rfl rfl (hon 5 (by kernel_rfl)) rfl
            replace ha := Aside0.mk ha
            have HBB := Aside0.mk Q_HBB
            have RB := Aside0.mk (Q_RB (hon 1 (by kernel_rfl)))
            refine goes_ Try.func23 (by kernel_rfl) rfl #[.string s] (by rfl) rfl rfl (by first | (simp only [List.map_toArray, List.map_cons, List.map_nil, Act.eval, Array.getD_eq_getD_getElem?, Option.getD_some, e87]; done) | (simp only [List.map_toArray, List.map_cons, List.map_nil, Act.eval, Array.getD_eq_getD_getElem?, Option.getD_some, e87]; rfl)) ?_
            with_reducible refine (short_callsT t s _ HS64.out HTT.out).mono ?_
            rintro e w3 ⟨rfl, rfl⟩
            refine ⟨_, rfl, ?_⟩
            refine hK.out _ _ ⟨(by rw [ha.out]; exact putSel_upk 6 hb_ rfl rfl rfl), HBB.out, fun h0_ => absurd ((hon 1 (by kernel_rfl)).symm.trans h0_) (by decide), fun _ => RB.out⟩
          refine steps_cons ?_ ?_
          · intro b a w' hI_ hb_ hon hoff
            refine ⟨_, rfl, fun K hK => ?_⟩
            obtain ⟨ha, Q_HBB, Q_RA, Q_RB⟩ := hI_
            have e83 : a.tmps[83]? = some (.string t) := by rw [ha]; exact putSel_on (e := (1, 83, .string t)) 1 rfl rfl (hon 1 (by kernel_rfl)) rfl
            have e88 : a.tmps[88]? = some (.string t) := by rw [ha]; exact putSel_on (e := (6, 88, .string t)) 6 rfl rfl (hon 6 (by kernel_rfl)) rfl
            replace ha := Aside0.mk ha
            have HBB := Aside0.mk Q_HBB
            have RB := Aside0.mk (Q_RB (hon 1 (by kernel_rfl)))
            refine value_ (w1 := w') (v := .bool false) (by rfl) rfl ?_ ?_
            · go_simp
              (try simp only [i64_w])
              try rfl
            refine hK.out _ _ ⟨(by rw [ha.out]; exact putSel_upk 7 hb_ rfl rfl rfl), Q_HBB, fun h0_ => absurd ((hon 1 (by kernel_rfl)).symm.trans h0_) (by decide), Q_RB⟩
          exact steps_nil
        rintro b a wz hall ⟨ha, Q_HBB, Q_RA, Q_RB⟩
        clear HBB RA
        have hb0_ := hall 0 (by kernel_rfl)
        have hb1_ := hall 1 (by kernel_rfl)
        have hb2_ := hall 2 (by kernel_rfl)
        have hb3_ := hall 3 (by kernel_rfl)
        have hb4_ := hall 4 (by kernel_rfl)
        have hb5_ := hall 5 (by kernel_rfl)
        have hb6_ := hall 6 (by kernel_rfl)
        have hb7_ := hall 7 (by kernel_rfl)
        subst ha
        simp only [putSel, hb0_, hb1_, hb2_, hb3_, hb4_, hb5_, hb6_, hb7_, if_true, Act.put, List.setIfInBounds_toArray, List.set_cons_zero, List.set_cons_succ]
        have HBB := Aside0.mk Q_HBB
        clear Q_HBB
        clear Q_RA
        have RB := Aside0.mk (Q_RB hb1_)
        clear Q_RB
        clear hall hb0_ hb1_ hb2_ hb3_ hb4_ hb5_ hb6_ hb7_
        go_wp2_with fail
        go_roundg (p - (i + 1))
        case measure => have := HE.out; omega
        case rel => exact ⟨i + 1, by go_num, ⟨by omega⟩, ⟨by rw [← HRR.out]; exact (by repeat (first | exact RB.out | (with_reducible first | refine Rd.drewN ?_ _ | refine Rd.drew ?_ | refine Rd.alloc ?_ _)))⟩, ⟨(by repeat (first | (with_reducible first | exact HBB.out | apply below_alloc | apply pw_below_drewN | apply below_drew1) | exact HBB.out))⟩⟩
      · obtain rfl : i = p := by omega
        by_cases hl : i < ms.length
        · have hb1 : decide ((i : Int) < (ms.length : Int)) = true := decide_eq_true (by omega)
          have hb2 : decide ((i : Int) < 30) = false := decide_eq_false (by have := HP.out; omega)
          go_wp2_with fail
          go_meet
          case rel => exact ⟨rfl, ⟨by have h := HI.out; rw [List.drop_eq_nil_of_le (by rw [List.length_take]; omega)] at h; have HI2 : Aside0 (Rd 47 P _ g [] false) := ⟨h⟩; exact (by repeat (first | exact HI2.out | (with_reducible first | refine Rd.drewN ?_ _ | refine Rd.drew ?_ | refine Rd.alloc ?_ _)))⟩, ⟨(by repeat (first | (with_reducible first | exact HB.out | apply below_alloc | apply pw_below_drewN | apply below_drew1) | exact HB.out))⟩⟩
        · have hb1 : decide ((i : Int) < (ms.length : Int)) = false := decide_eq_false (by omega)
          go_wp2_with fail
          go_meet
          case rel => exact ⟨rfl, ⟨by have h := HI.out; rw [List.drop_eq_nil_of_le (by rw [List.length_take]; omega)] at h; have HI2 : Aside0 (Rd 47 P _ g [] false) := ⟨h⟩; exact (by repeat (first | exact HI2.out | (with_reducible first | refine Rd.drewN ?_ _ | refine Rd.drew ?_ | refine Rd.alloc ?_ _)))⟩, ⟨(by repeat (first | (with_reducible first | exact HB.out | apply below_alloc | apply pw_below_drewN | apply below_drew1) | exact HB.out))⟩⟩
  case rest =>
  clear HI HB
  obtain ⟨rfl, HI, HB⟩ := hcut
  go_wp2_with fail
  refine (leftW P _ g [] false (by repeat (first | exact HI.out | (with_reducible first | refine Rd.drewN ?_ _ | refine Rd.drew ?_ | refine Rd.alloc ?_ _)))).mono ?_
  rintro e w6 ⟨rfl, hI, hb, hk⟩
  have HI6 := Aside0.mk hI
  have HB6 := Aside0.mk (((by repeat (first | (with_reducible first | exact HB.out | apply below_alloc | apply pw_below_drewN | apply below_drew1) | exact HB.out)) : Below w.heap.size w _).trans (hb.mono HG.out))
  clear HI HB hI hb hk
  go_wp2_with fail
  refine (badW P _ g [] false (by repeat (first | exact HI6.out | (with_reducible first | refine Rd.drewN ?_ _ | refine Rd.drew ?_ | refine Rd.alloc ?_ _)))).mono ?_
  rintro e w7 ⟨rfl, hI, hb, hk⟩
  have HI7 := Aside0.mk hI
  have HB7 := Aside0.mk (((by repeat (first | (with_reducible first | exact HB6.out | apply below_alloc | apply pw_below_drewN | apply below_drew1) | exact HB6.out)) : Below w.heap.size w _).trans (hb.mono HG.out))
  clear HI6 HB6 hI hb hk
  go_wp2_with fail
  refine (num_calls' 0 P _ g [] false (by repeat (first | exact HI7.out | (with_reducible first | refine Rd.drewN ?_ _ | refine Rd.drew ?_ | refine Rd.alloc ?_ _))) (fun c hc => by simp at hc) rfl).mono ?_
  rintro e w8 ⟨rfl, hI, hb, hk⟩
  have HI8 : Aside0 (Rd 47 P w8 g [] true) := ⟨hI⟩
  have HB8 := Aside0.mk (((by repeat (first | (with_reducible first | exact HB7.out | apply below_alloc | apply pw_below_drewN | apply below_drew1) | exact HB7.out)) : Below w.heap.size w _).trans (hb.mono HG.out))
  clear HI7 HB7 hI hb hk
  go_wp2_with fail
  refine (badW P _ g [] true (by repeat (first | exact HI8.out | (with_reducible first | refine Rd.drewN ?_ _ | refine Rd.drew ?_ | refine Rd.alloc ?_ _)))).mono ?_
  rintro e w9 ⟨rfl, hI, hb, hk⟩
  go_wp2
  go_ret
  exact ⟨rfl, ((by repeat (first | (with_reducible first | exact HB8.out | apply below_alloc | apply pw_below_drewN | apply below_drew1) | exact HB8.out)) : Below w.heap.size w _).trans (hb.mono HG.out)⟩
end Go.Proofs.Ytnkaighdajickaa.Num

/- The statement NameOne: the walk of the law. -/
import Derived.Test.YtkbnckpcllfikaaM11
import Derived.Test.YtkbnckpcllfikaaL1
namespace Go.Proofs.Ytkbnckpcllfikaa.Nam
open Go.RowKit Go.Proofs.YtkbnckpcllfikaaW.PrintWords Go.Proofs.YtkbnckpcllfikaaW.PrintLast Go.Proofs.YtkbnckpcllfikaaW.PrintMore Go.Proofs.Ytkbnckpcllfikaa.Num Go.Proofs.Ytkbnckpcllfikaa.Prt
set_option linter.unusedVariables false
set_option linter.unusedSimpArgs false
theorem one_letters (a : Int) : lettersOnly [a] = plainC a := by
  by_cases h : plainC a = true
  · rw [lo1 h, lettersOnly_nil, h]
  · rw [lettersOnly_bad (by simp [letD, h]) (by simp)]
    simpa using h
theorem mayOne (a : Int) : mayL [a] = decide ((97 ≤ a ∧ a ≤ 122) ∨ a = 95) := by
  unfold mayL
  rw [one_letters]
  unfold notFirst plainC
  rw [Bool.eq_iff_iff]
  simp
  omega
theorem mayA (a : Int) : mayL [97, a] = plainC a := by
  unfold mayL
  rw [lo1 (by decide), one_letters]
  rfl
theorem mayTwo {a : Int} (b : Int) (h : 128 ≤ a) : mayL [a, b] = two a b := by
  have hp : ¬ plainC a = true := fun h2 => by have := plain_range h2; omega
  unfold mayL
  have e : notFirst a = false := by unfold notFirst; rw [decide_eq_false (by omega), decide_eq_false (by omega)]; rfl
  have e2 : lettersOnly [a, b] = two a b := by
    by_cases ht : two a b = true
    · rw [lo2 ht, lettersOnly_nil, ht]
    · rw [lettersOnly_bad (by simp only [letD, if_neg hp, if_neg ht]) (by simp)]
      simpa using ht
  rw [e2]
  show (decide (1 ≤ 2 ∧ 2 ≤ 24) && !notFirst a && two a b) = _
  rw [e]; rfl
open Go.Proofs.YtkbnckpcllfikaaW.PrintLast
def D6.T7 : Bool × List (List Nat × List Nat) := (true, [([], []), ([0], [0]), ([1], [1]), ([2], [2]), ([3, 2], [2, 3]), ([2, 4], [2, 4]), ([5, 2], [5]), ([6], [6]), ([7, 6, 6], [6, 7]), ([6], [6]), ([9, 6], [6, 9]), ([10, 6], [6, 10]), ([11, 6], [6, 11]), ([8, 12, 6], [6, 8, 12]), ([6, 13], [6, 13])])
def D6.B7 : List Nat := [0, 1, 3, 7, 15, 31, 63, 127, 255, 127, 639, 1663, 3711, 8191, 16383]
theorem D6.tab7 : rtab .any (opsOf Try.f6 7) = D6.T7 := by kernel_rfl
theorem D6.bits7 : waitsOk D6.T7.2 D6.B7 = true := by kernel_rfl
set_option maxHeartbeats 8000000 in
set_option maxRecDepth 100000 in
theorem one_law (p q : Int) (w : World) (wa : (Lit.int .u8 p).wf = true) (wb : (Lit.int .u8 q).wf = true) :
    Calls Try.prog 6 #[.int .u8 p, .int .u8 q] w fun e w' => e = .returned (.bool true) ∧ Below w.heap.size w w' := by
  have hwf : ∀ x : Int, (Lit.int .u8 x).wf = true → 0 ≤ x ∧ x < 256 := fun x h => by
    simp [Lit.wf, IntKind.min, IntKind.max, IntKind.bits, IntKind.signed] at h
    omega
  obtain ⟨ha0, ha1⟩ := hwf p wa
  obtain ⟨hb0, hb1⟩ := hwf q wb
  clear hwf wa wb
  have HB := Aside0.mk (Below.refl w.heap.size w)
  obtain ⟨s, hs⟩ : ∃ s, s = strOfNums [p] := ⟨_, rfl⟩
  have hsb : bytesOf s = [p] := by rw [hs]; exact bytesOf_strOfNums (fun c hc => by rw [List.mem_singleton] at hc; omega)
  have hsz : s.size = 1 := by rw [← bytes_length, hsb]; rfl
  have HS := Aside0.mk hs
  have HSB := Aside0.mk hsb
  clear hs hsb
  obtain ⟨l1, hl1⟩ : ∃ l, l = decide ((97 ≤ p ∧ p ≤ 122) ∨ p = 95) := ⟨_, rfl⟩
  obtain ⟨l2, hl2⟩ : ∃ l, l = plainC p := ⟨_, rfl⟩
  have HL1 := Aside0.mk hl1
  have HL2 := Aside0.mk hl2
  clear hl1 hl2
  go_enter Try.func6, Try.ntmps6
  go_wp2_with fail
  refine (shown_calls _).mono ?_

  rintro e w_ ⟨rfl, hb⟩
  have n_ := Aside0.mk (below_step (by repeat (first | (with_reducible first | exact HB.out | apply below_alloc | apply pw_below_drewN | apply below_drew1) | exact HB.out)) hb); clear HB hb; have HB := n_; clear n_
  go_upto_region 3 with (first
    | ((with_reducible refine gate_dst (N := 13) rfl ?_); refine Kd.R_lit (Kd.int .u8) (w0 := w) w.heap.size 5 ?hg (N := 13) ?hd (xs := [p]) (inner := [.int .u8 p]) (ok := fun _ => True) (okp := fun _ => True) ?hr ?hp (fun _ hk => hk) trivial ?hB ?hS (by simp) ?_; (case hd => rfl); (case hg => rfl); (case hr => first | (go_simp; done) | (go_simp; rfl)); (case hp => exact Kd.reps_scalar [p]); (case hB => exact (by repeat (first | (with_reducible first | exact HB.out | apply below_alloc | apply pw_below_drewN | apply below_drew1) | exact HB.out))); (case hS => exact (below_size (by repeat (first | (with_reducible first | exact HB.out | apply below_alloc | apply pw_below_drewN | apply below_drew1) | exact HB.out)))); intro v3 w3 ho hb hg hat; obtain ⟨A3, c3, rfl, hc, hC⟩ := Kd.R_reads ho; have HC3 := Aside0.mk hC; have n_ := Aside0.mk hb; clear HB hb hg hat hc hC ho; have HB := n_; clear n_)
    | ((with_reducible refine gate_dst (N := 14) rfl ?_); (try (refine gate_guard (by rfl) ?_; dsimp only)); refine Gen.ev_string' (s) rfl 27 9 5 (.tmp 13) rfl Try.underlying27 Try.underlying9 Try.underlying5 rfl HC3.out HS.out.symm ?_))
  go_cut [7] (fun v7 wc => v7 = .bool l1 ∧ Aside0 (Below w.heap.size w wc))
  case first =>
    by_cases h3 : p = 95
    · have e1 : (decide ((97 : Int) ≤ p)) = false := decide_eq_false (by omega)
      have e3 : (p == 95) = true := beq_iff_eq.mpr (by omega)
      obtain rfl : l1 = true := by rw [HL1.out]; exact decide_eq_true (by omega)
      go_wp2
      go_meet
      case rel => exact ⟨rfl, ⟨(by repeat (first | (with_reducible first | exact HB.out | apply below_alloc | apply pw_below_drewN | apply below_drew1) | exact HB.out))⟩⟩
    · by_cases h1 : 97 ≤ p
      · by_cases h2 : p ≤ 122
        · have e1 : (decide ((97 : Int) ≤ p)) = true := decide_eq_true (by omega)
          have e2 : (decide (p ≤ 122)) = true := decide_eq_true (by omega)
          obtain rfl : l1 = true := by rw [HL1.out]; exact decide_eq_true (by omega)
          go_wp2
          go_meet
          case rel => exact ⟨rfl, ⟨(by repeat (first | (with_reducible first | exact HB.out | apply below_alloc | apply pw_below_drewN | apply below_drew1) | exact HB.out))⟩⟩
        · have e1 : (decide ((97 : Int) ≤ p)) = true := decide_eq_true (by omega)
          have e2 : (decide (p ≤ 122)) = false := decide_eq_false (by omega)
          have e3 : (p == 95) = false := beq_eq_false_iff_ne.mpr (by omega)
          obtain rfl : l1 = false := by rw [HL1.out]; exact decide_eq_false (by omega)
          go_wp2
          go_meet
          case rel => exact ⟨rfl, ⟨(by repeat (first | (with_reducible first | exact HB.out | apply below_alloc | apply pw_below_drewN | apply below_drew1) | exact HB.out))⟩⟩
      · have e1 : (decide ((97 : Int) ≤ p)) = false := decide_eq_false (by omega)
        have e3 : (p == 95) = false := beq_eq_false_iff_ne.mpr (by omega)
        obtain rfl : l1 = false := by rw [HL1.out]; exact decide_eq_false (by omega)
        go_wp2
        go_meet
        case rel => exact ⟨rfl, ⟨(by repeat (first | (with_reducible first | exact HB.out | apply below_alloc | apply pw_below_drewN | apply below_drew1) | exact HB.out))⟩⟩
  case rest =>
  clear HB
  obtain ⟨rfl, HB⟩ := hcut
  have HP : Aside0 (l2 = decide ((97 ≤ p ∧ p ≤ 122) ∨ p = 95 ∨ (48 ≤ p ∧ p ≤ 57) ∨ p = 45)) := ⟨by
    rw [HL2.out]; unfold plainC
    rw [Bool.eq_iff_iff]; simp; omega⟩
  go_upto_region 4 with fail
  go_cut [8] (fun v8 wc => v8 = .bool l2 ∧ Aside0 (Below w.heap.size w wc))
  case first =>
    by_cases hl : (97 ≤ p ∧ p ≤ 122) ∨ p = 95
    · obtain rfl : l1 = true := by rw [HL1.out]; exact decide_eq_true hl
      obtain rfl : l2 = true := by rw [HP.out]; exact decide_eq_true (by omega)
      go_wp2
      go_meet
      case rel => exact ⟨rfl, ⟨(by repeat (first | (with_reducible first | exact HB.out | apply below_alloc | apply pw_below_drewN | apply below_drew1) | exact HB.out))⟩⟩
    · obtain rfl : l1 = false := by rw [HL1.out]; exact decide_eq_false hl
      by_cases h4 : p = 45
      · have e1 : (decide ((48 : Int) ≤ p)) = false := decide_eq_false (by omega)
        have e3 : (p == 45) = true := beq_iff_eq.mpr (by omega)
        obtain rfl : l2 = true := by rw [HP.out]; exact decide_eq_true (by omega)
        go_wp2
        go_meet
        case rel => exact ⟨rfl, ⟨(by repeat (first | (with_reducible first | exact HB.out | apply below_alloc | apply pw_below_drewN | apply below_drew1) | exact HB.out))⟩⟩
      · by_cases h1 : 48 ≤ p
        · by_cases h2 : p ≤ 57
          · have e1 : (decide ((48 : Int) ≤ p)) = true := decide_eq_true (by omega)
            have e2 : (decide (p ≤ 57)) = true := decide_eq_true (by omega)
            obtain rfl : l2 = true := by rw [HP.out]; exact decide_eq_true (by omega)
            go_wp2
            go_meet
            case rel => exact ⟨rfl, ⟨(by repeat (first | (with_reducible first | exact HB.out | apply below_alloc | apply pw_below_drewN | apply below_drew1) | exact HB.out))⟩⟩
          · have e1 : (decide ((48 : Int) ≤ p)) = true := decide_eq_true (by omega)
            have e2 : (decide (p ≤ 57)) = false := decide_eq_false (by omega)
            have e3 : (p == 45) = false := beq_eq_false_iff_ne.mpr (by omega)
            obtain rfl : l2 = false := by rw [HP.out]; exact decide_eq_false (by omega)
            go_wp2
            go_meet
            case rel => exact ⟨rfl, ⟨(by repeat (first | (with_reducible first | exact HB.out | apply below_alloc | apply pw_below_drewN | apply below_drew1) | exact HB.out))⟩⟩
        · have e1 : (decide ((48 : Int) ≤ p)) = false := decide_eq_false (by omega)
          have e3 : (p == 45) = false := beq_eq_false_iff_ne.mpr (by omega)
          obtain rfl : l2 = false := by rw [HP.out]; exact decide_eq_false (by omega)
          go_wp2
          go_meet
          case rel => exact ⟨rfl, ⟨(by repeat (first | (with_reducible first | exact HB.out | apply below_alloc | apply pw_below_drewN | apply below_drew1) | exact HB.out))⟩⟩
  case rest =>
  clear HB
  obtain ⟨rfl, HB⟩ := hcut
  have HM1 : Aside0 (mayL (bytesOf s) = l1) := ⟨by rw [HSB.out, mayOne, HL1.out]⟩
  have HM2 : Aside0 (mayL (bytesOf ((⟨#[97]⟩ : ByteArray) ++ s)) = l2) := ⟨by
    rw [bytes_append, HSB.out, HL2.out]
    exact mayA p⟩
  have HZ2 : Aside0 (((⟨#[97]⟩ : ByteArray) ++ s).size ≤ 1000000) := ⟨by
    rw [ByteArray.size_append, hsz]; decide⟩
  have hs1 : 1 + s.size ≤ 9223372036854775807 := by omega
  go_upto_region 5 with fail
  go_cut [57] (fun v57 wc => v57 = .bool false ∧ Aside0 (Below w.heap.size w wc))
  case first =>
    go_wp2_with fail
    refine (mayC l1 s _ (by omega) HM1.out).mono ?_

    rintro e w_ ⟨rfl, hb⟩
    have n_ := Aside0.mk (below_step (by repeat (first | (with_reducible first | exact HB.out | apply below_alloc | apply pw_below_drewN | apply below_drew1) | exact HB.out)) hb); clear HB hb; have HB := n_; clear n_
    go_wp2_with fail
    refine (mayC l2 _ _ HZ2.out HM2.out).mono ?_

    rintro e w_ ⟨rfl, hb⟩
    have n_ := Aside0.mk (below_step (by repeat (first | (with_reducible first | exact HB.out | apply below_alloc | apply pw_below_drewN | apply below_drew1) | exact HB.out)) hb); clear HB hb; have HB := n_; clear n_
    cases l2 with
    | false =>
      go_wp2
      go_meet
      case rel => exact ⟨rfl, ⟨(by repeat (first | (with_reducible first | exact HB.out | apply below_alloc | apply pw_below_drewN | apply below_drew1) | exact HB.out))⟩⟩
    | true =>
      have HFS : Aside0 (s = strOfNums (foldL (bytesOf s))) := ⟨by
        rw [HSB.out, foldL_letters (by rw [one_letters, ← HL2.out]), HS.out]⟩
      go_wp2_with fail
      refine (foldC s s _ (by omega) HFS.out).mono ?_

      rintro e w_ ⟨rfl, hb⟩
      have n_ := Aside0.mk (below_step (by repeat (first | (with_reducible first | exact HB.out | apply below_alloc | apply pw_below_drewN | apply below_drew1) | exact HB.out)) hb); clear HB hb; have HB := n_; clear n_
      go_wp2
      go_meet
      case rel => exact ⟨rfl, ⟨(by repeat (first | (with_reducible first | exact HB.out | apply below_alloc | apply pw_below_drewN | apply below_drew1) | exact HB.out))⟩⟩
  case rest =>
  clear HB
  obtain ⟨rfl, HB⟩ := hcut
  go_upto_region 7 with fail
  go_cut [72] (fun v72 wc => v72 = .bool false ∧ Aside0 (Below w.heap.size w wc))
  case first =>
    have HBB := HB
    clear HB
    by_cases h1 : 65 ≤ p
    · have e1 : decide ((65 : Int) ≤ p) = true := decide_eq_true h1
      by_cases h2 : p ≤ 90
      · have e2 : decide (p ≤ 90) = true := decide_eq_true h2
        have HW68 : Aside0 (IntKind.u8.wrap (p + 32) = p + 32) := ⟨by simp [IntKind.wrap, IntKind.signed, IntKind.bits]; omega⟩
        have HFU : Aside0 (strOfNums [p + 32] = strOfNums (foldL (bytesOf s))) := ⟨by rw [HSB.out, fo_up h1 h2, foldL_nil]⟩
        refine start_ (n := 15) (S := fun w' => True) (ds := []) #[false, false, false, false, false, false, false, false, false, false, false, false, false, false, false] (by kernel_rfl) rfl rfl trivial (fun hHeld => ?_); refine with_tabW D6.tab7 D6.bits7 (fun HT_ HW_ => ?_)
        refine inv_at [0, 1, 2, 3, 4, 5, 6, 7, 8, 9, 10, 11, 12, 13, 14] (fun a0_ b a w' => ∃ (B1 : Option Addr) (d1 : Nat) (m11_ : Value), a = putSel a0_ b [(0, 58, .int .u8 p), (1, 59, .bool true), (2, 60, .bool true), (3, 61, .int .u8 p), (4, 62, .bool true), (5, 63, .bool true), (6, 64, .bool true), (7, 65, .string s), (8, 66, .string (strOfNums [p + 32])), (9, 67, .int .u8 p), (10, 68, .int .u8 (p + 32)), (11, 69, m11_), (12, 70, .string (strOfNums [p + 32])), (13, 71, .bool false), (14, 72, .bool false)] ∧ (Below w.heap.size w w') ∧ (b 11 = true → (Kd.int .u8).C w' B1 1 [p + 32]) ∧ (b 11 = true → (m11_ : Value) = .slice B1 1 d1)) HT_.out HW_.out (by kernel_rfl) (by kernel_rfl) ?_ ?_ ?_
        · exact ⟨none, 0, .bool false, by simp only [putSel, Bool.false_eq_true, if_false], (by repeat (first | (with_reducible first | exact HBB.out | apply below_alloc | apply pw_below_drewN | apply below_drew1) | exact HBB.out)), fun h_ => absurd h_ (by decide), fun h_ => absurd h_ (by decide)⟩
        · clear HT_ HW_ hHeld
          clear HBB
          refine steps_cons ?_ ?_
          · intro b a w' hI_ hb_ hon hoff
            refine ⟨_, rfl, fun K hK => ?_⟩
            obtain ⟨B1, d1, m11_, ha, Q_HBB, Q_HC69, Q_X11_⟩ := hI_
            have e0 : a.tmps[0]? = some (.int .u8 p) := by rw [ha]; exact (putSel_off rfl).trans rfl
            replace ha := Aside0.mk ha
            have HBB := Aside0.mk Q_HBB
            refine value_ (w1 := w') (v := .int .u8 p) (by rfl) rfl ?_ ?_
            · go_simp
              (try simp only [i64_w])
              try (first | rfl | assumption)
            refine hK.out _ _ ⟨B1, d1, m11_, (by rw [ha.out]; exact putSel_upk 0 hb_ rfl rfl rfl), Q_HBB, fun h0_ => absurd ((hoff 11 (by kernel_rfl)).symm.trans h0_) (by decide), fun h0_ => absurd ((hoff 11 (by kernel_rfl)).symm.trans h0_) (by decide)⟩
          refine steps_cons ?_ ?_
          · intro b a w' hI_ hb_ hon hoff
            refine ⟨_, rfl, fun K hK => ?_⟩
            obtain ⟨B1, d1, m11_, ha, Q_HBB, Q_HC69, Q_X11_⟩ := hI_
            have e58 : a.tmps[58]? = some (.int .u8 p) := by rw [ha]; exact putSel_on (e := (0, 58, .int .u8 p)) 0 rfl rfl (hon 0 (by kernel_rfl)) rfl
            replace ha := Aside0.mk ha
            have HBB := Aside0.mk Q_HBB
            refine value_ (w1 := w') (v := .bool true) (by rfl) rfl ?_ ?_
            · go_simp
              (try simp only [i64_w])
              try (first | rfl | assumption)
            refine hK.out _ _ ⟨B1, d1, m11_, (by rw [ha.out]; exact putSel_upk 1 hb_ rfl rfl rfl), Q_HBB, fun h0_ => absurd ((hoff 11 (by kernel_rfl)).symm.trans h0_) (by decide), fun h0_ => absurd ((hoff 11 (by kernel_rfl)).symm.trans h0_) (by decide)⟩
          refine steps_cons ?_ ?_
          · intro b a w' hI_ hb_ hon hoff
            refine ⟨_, rfl, fun K hK => ?_⟩
            obtain ⟨B1, d1, m11_, ha, Q_HBB, Q_HC69, Q_X11_⟩ := hI_
            have e59 : a.tmps[59]? = some (.bool true) := by rw [ha]; exact putSel_on (e := (1, 59, .bool true)) 1 rfl rfl (hon 1 (by kernel_rfl)) rfl
            replace ha := Aside0.mk ha
            have HBB := Aside0.mk Q_HBB
            refine value_ (w1 := w') (v := .bool true) (by rfl) rfl ?_ ?_
            · go_simp
              (try simp only [i64_w])
              try (first | rfl | assumption)
            refine hK.out _ _ ⟨B1, d1, m11_, (by rw [ha.out]; exact putSel_upk 2 hb_ rfl rfl rfl), Q_HBB, fun h0_ => absurd ((hoff 11 (by kernel_rfl)).symm.trans h0_) (by decide), fun h0_ => absurd ((hoff 11 (by kernel_rfl)).symm.trans h0_) (by decide)⟩
          refine steps_cons ?_ ?_
          · intro b a w' hI_ hb_ hon hoff
            refine ⟨_, rfl, fun K hK => ?_⟩
            obtain ⟨B1, d1, m11_, ha, Q_HBB, Q_HC69, Q_X11_⟩ := hI_
            have e0 : a.tmps[0]? = some (.int .u8 p) := by rw [ha]; exact (putSel_off rfl).trans rfl
            have e60 : a.tmps[60]? = some (.bool true) := by rw [ha]; exact putSel_on (e := (2, 60, .bool true)) 2 rfl rfl (hon 2 (by kernel_rfl)) rfl
            replace ha := Aside0.mk ha
            have HBB := Aside0.mk Q_HBB
            refine value_ (w1 := w') (v := .int .u8 p) (wanted_on rfl rfl rfl (e60.trans (by first | rfl | (simp [*]; done)))) rfl ?_ ?_
            · go_simp
              (try simp only [i64_w])
              try (first | rfl | assumption)
            refine hK.out _ _ ⟨B1, d1, m11_, (by rw [ha.out]; exact putSel_upk 3 hb_ rfl rfl rfl), Q_HBB, fun h0_ => absurd ((hoff 11 (by kernel_rfl)).symm.trans h0_) (by decide), fun h0_ => absurd ((hoff 11 (by kernel_rfl)).symm.trans h0_) (by decide)⟩
          refine steps_cons ?_ ?_
          · intro b a w' hI_ hb_ hon hoff
            refine ⟨_, rfl, fun K hK => ?_⟩
            obtain ⟨B1, d1, m11_, ha, Q_HBB, Q_HC69, Q_X11_⟩ := hI_
            have e61 : a.tmps[61]? = some (.int .u8 p) := by rw [ha]; exact putSel_on (e := (3, 61, .int .u8 p)) 3 rfl rfl (hon 3 (by kernel_rfl)) rfl
            have e60 : a.tmps[60]? = some (.bool true) := by rw [ha]; exact putSel_on (e := (2, 60, .bool true)) 2 rfl rfl (hon 2 (by kernel_rfl)) rfl
            replace ha := Aside0.mk ha
            have HBB := Aside0.mk Q_HBB
            refine value_ (w1 := w') (v := .bool true) (wanted_on rfl rfl rfl (e60.trans (by first | rfl | (simp [*]; done)))) rfl ?_ ?_
            · go_simp
              (try simp only [i64_w])
              try (first | rfl | assumption)
            refine hK.out _ _ ⟨B1, d1, m11_, (by rw [ha.out]; exact putSel_upk 4 hb_ rfl rfl rfl), Q_HBB, fun h0_ => absurd ((hoff 11 (by kernel_rfl)).symm.trans h0_) (by decide), fun h0_ => absurd ((hoff 11 (by kernel_rfl)).symm.trans h0_) (by decide)⟩
          refine steps_cons ?_ ?_
          · intro b a w' hI_ hb_ hon hoff
            refine ⟨_, rfl, fun K hK => ?_⟩
            obtain ⟨B1, d1, m11_, ha, Q_HBB, Q_HC69, Q_X11_⟩ := hI_
            have e60 : a.tmps[60]? = some (.bool true) := by rw [ha]; exact putSel_on (e := (2, 60, .bool true)) 2 rfl rfl (hon 2 (by kernel_rfl)) rfl
            have e62 : a.tmps[62]? = some (.bool true) := by rw [ha]; exact putSel_on (e := (4, 62, .bool true)) 4 rfl rfl (hon 4 (by kernel_rfl)) rfl
            replace ha := Aside0.mk ha
            have HBB := Aside0.mk Q_HBB
            refine value_ (w1 := w') (v := .bool true) (by rfl) rfl ?_ ?_
            · go_simp
              (try simp only [i64_w])
              try (first | rfl | assumption)
            refine hK.out _ _ ⟨B1, d1, m11_, (by rw [ha.out]; exact putSel_upk 5 hb_ rfl rfl rfl), Q_HBB, fun h0_ => absurd ((hoff 11 (by kernel_rfl)).symm.trans h0_) (by decide), fun h0_ => absurd ((hoff 11 (by kernel_rfl)).symm.trans h0_) (by decide)⟩
          refine steps_cons ?_ ?_
          · intro b a w' hI_ hb_ hon hoff
            refine ⟨_, rfl, fun K hK => ?_⟩
            obtain ⟨B1, d1, m11_, ha, Q_HBB, Q_HC69, Q_X11_⟩ := hI_
            have e63 : a.tmps[63]? = some (.bool true) := by rw [ha]; exact putSel_on (e := (5, 63, .bool true)) 5 rfl rfl (hon 5 (by kernel_rfl)) rfl
            replace ha := Aside0.mk ha
            have HBB := Aside0.mk Q_HBB
            refine value_ (w1 := w') (v := .bool true) (by rfl) rfl ?_ ?_
            · go_simp
              (try simp only [i64_w])
              try (first | rfl | assumption)
            refine hK.out _ _ ⟨B1, d1, m11_, (by rw [ha.out]; exact putSel_upk 6 hb_ rfl rfl rfl), Q_HBB, fun h0_ => absurd ((hoff 11 (by kernel_rfl)).symm.trans h0_) (by decide), fun h0_ => absurd ((hoff 11 (by kernel_rfl)).symm.trans h0_) (by decide)⟩
          refine steps_cons ?_ ?_
          · intro b a w' hI_ hb_ hon hoff
            refine ⟨_, rfl, fun K hK => ?_⟩
            obtain ⟨B1, d1, m11_, ha, Q_HBB, Q_HC69, Q_X11_⟩ := hI_
            have e6 : a.tmps[6]? = some (.string s) := by rw [ha]; exact (putSel_off rfl).trans rfl
            have e64 : a.tmps[64]? = some (.bool true) := by rw [ha]; exact putSel_on (e := (6, 64, .bool true)) 6 rfl rfl (hon 6 (by kernel_rfl)) rfl
            replace ha := Aside0.mk ha
            have HBB := Aside0.mk Q_HBB
            refine value_ (w1 := w') (v := .string s) (wanted_on rfl rfl rfl (e64.trans (by first | rfl | (simp [*]; done)))) rfl ?_ ?_
            · go_simp
              (try simp only [i64_w])
              try (first | rfl | assumption)
            refine hK.out _ _ ⟨B1, d1, m11_, (by rw [ha.out]; exact putSel_upk 7 hb_ rfl rfl rfl), Q_HBB, Q_HC69, Q_X11_⟩
          refine steps_cons ?_ ?_
          · intro b a w' hI_ hb_ hon hoff
            refine ⟨_, rfl, fun K hK => ?_⟩
            obtain ⟨B1, d1, m11_, ha, Q_HBB, Q_HC69, Q_X11_⟩ := hI_
            have e65 : a.tmps[65]? = some (.string s) := by rw [ha]; exact putSel_on (e := (7, 65, .string s)) 7 rfl rfl (hon 7 (by kernel_rfl)) rfl
            have e64 : a.tmps[64]? = some (.bool true) := by rw [ha]; exact putSel_on (e := (6, 64, .bool true)) 6 rfl rfl (hon 6 (by kernel_rfl)) rfl
            replace ha := Aside0.mk ha
            have HBB := Aside0.mk Q_HBB
            refine goes_ Try.func15 (by kernel_rfl) rfl #[.string s] (wanted_on rfl rfl rfl (e64.trans (by first | rfl | (simp [*]; done)))) rfl rfl (by first | (simp only [List.map_toArray, List.map_cons, List.map_nil, Act.eval, Array.getD_eq_getD_getElem?, Option.getD_some, e65, e64]; done) | (simp only [List.map_toArray, List.map_cons, List.map_nil, Act.eval, Array.getD_eq_getD_getElem?, Option.getD_some, e65, e64]; rfl)) ?_
            with_reducible refine (foldC (strOfNums [p + 32]) s _ (by omega) HFU.out).mono ?_
            rintro e w3 ⟨rfl, hb_2⟩
            refine ⟨_, rfl, ?_⟩
            refine hK.out _ _ ⟨B1, d1, m11_, (by rw [ha.out]; exact putSel_upk 8 hb_ rfl rfl rfl), below_step HBB.out hb_2, fun h0_ => Kd.C_below (Q_HC69 h0_) hb_2, Q_X11_⟩
          refine steps_cons ?_ ?_
          · intro b a w' hI_ hb_ hon hoff
            refine ⟨_, rfl, fun K hK => ?_⟩
            obtain ⟨B1, d1, m11_, ha, Q_HBB, Q_HC69, Q_X11_⟩ := hI_
            have e0 : a.tmps[0]? = some (.int .u8 p) := by rw [ha]; exact (putSel_off rfl).trans rfl
            have e64 : a.tmps[64]? = some (.bool true) := by rw [ha]; exact putSel_on (e := (6, 64, .bool true)) 6 rfl rfl (hon 6 (by kernel_rfl)) rfl
            replace ha := Aside0.mk ha
            have HBB := Aside0.mk Q_HBB
            refine value_ (w1 := w') (v := .int .u8 p) (wanted_on rfl rfl rfl (e64.trans (by first | rfl | (simp [*]; done)))) rfl ?_ ?_
            · go_simp
              (try simp only [i64_w])
              try (first | rfl | assumption)
            refine hK.out _ _ ⟨B1, d1, m11_, (by rw [ha.out]; exact putSel_upk 9 hb_ rfl rfl rfl), Q_HBB, fun h0_ => absurd ((hoff 11 (by kernel_rfl)).symm.trans h0_) (by decide), fun h0_ => absurd ((hoff 11 (by kernel_rfl)).symm.trans h0_) (by decide)⟩
          refine steps_cons ?_ ?_
          · intro b a w' hI_ hb_ hon hoff
            refine ⟨_, rfl, fun K hK => ?_⟩
            obtain ⟨B1, d1, m11_, ha, Q_HBB, Q_HC69, Q_X11_⟩ := hI_
            have e67 : a.tmps[67]? = some (.int .u8 p) := by rw [ha]; exact putSel_on (e := (9, 67, .int .u8 p)) 9 rfl rfl (hon 9 (by kernel_rfl)) rfl
            have e64 : a.tmps[64]? = some (.bool true) := by rw [ha]; exact putSel_on (e := (6, 64, .bool true)) 6 rfl rfl (hon 6 (by kernel_rfl)) rfl
            replace ha := Aside0.mk ha
            have HBB := Aside0.mk Q_HBB
            have hw68 := HW68.out
            refine value_ (w1 := w') (v := .int .u8 (p + 32)) (wanted_on rfl rfl rfl (e64.trans (by first | rfl | (simp [*]; done)))) rfl ?_ ?_
            · go_simp
              (try simp only [i64_w])
              try (first | rfl | assumption)
            refine hK.out _ _ ⟨B1, d1, m11_, (by rw [ha.out]; exact putSel_upk 10 hb_ rfl rfl rfl), Q_HBB, fun h0_ => absurd ((hoff 11 (by kernel_rfl)).symm.trans h0_) (by decide), fun h0_ => absurd ((hoff 11 (by kernel_rfl)).symm.trans h0_) (by decide)⟩
          refine steps_cons ?_ ?_
          · intro b a w' hI_ hb_ hon hoff
            refine ⟨_, rfl, fun K hK => ?_⟩
            obtain ⟨B1, d1, m11_, ha, Q_HBB, Q_HC69, Q_X11_⟩ := hI_
            have e68 : a.tmps[68]? = some (.int .u8 (p + 32)) := by rw [ha]; exact putSel_on (e := (10, 68, .int .u8 (p + 32))) 10 rfl rfl (hon 10 (by kernel_rfl)) rfl
            have e64 : a.tmps[64]? = some (.bool true) := by rw [ha]; exact putSel_on (e := (6, 64, .bool true)) 6 rfl rfl (hon 6 (by kernel_rfl)) rfl
            replace ha := Aside0.mk ha
            have HBB := Aside0.mk Q_HBB
            refine Kd.R_lit_step (Kd.int .u8) (w0 := w') w'.heap.size 5 (wanted_on rfl rfl rfl (e64.trans (by first | rfl | (simp [*]; done)))) (N := 69) ?hd (xs := [p + 32]) (inner := [.int .u8 (p + 32)]) (ok := fun _ => True) (okp := fun _ => True) ?hr ?hp (fun _ hk => hk) trivial (Below.refl _ _) (Nat.le_refl _) (by simp) ?_
            case hd => rfl
            case hr => first | (go_simp; done) | (go_simp; rfl)
            case hp => exact Kd.reps_scalar [p + 32]
            intro v_ w3 ho_ hb_2 hg_ hat_
            obtain ⟨B_, c_, rfl, hc_, hC_⟩ := Kd.R_reads ho_
            refine hK.out _ _ ⟨B_, c_, (.slice B_ 1 c_), (by rw [ha.out]; exact putSel_upk 11 hb_ rfl rfl rfl), below_step HBB.out hb_2, fun _ => hC_, fun _ => rfl⟩
          refine steps_cons ?_ ?_
          · intro b a w' hI_ hb_ hon hoff
            refine ⟨_, rfl, fun K hK => ?_⟩
            obtain ⟨B1, d1, m11_, ha, Q_HBB, Q_HC69, Q_X11_⟩ := hI_
            have e69 : a.tmps[69]? = some (m11_) := by rw [ha]; exact putSel_on (e := (11, 69, m11_)) 11 rfl rfl (hon 11 (by kernel_rfl)) rfl
            rw [Q_X11_ (hon 11 (by kernel_rfl))] at e69
            have e64 : a.tmps[64]? = some (.bool true) := by rw [ha]; exact putSel_on (e := (6, 64, .bool true)) 6 rfl rfl (hon 6 (by kernel_rfl)) rfl
            replace ha := Aside0.mk ha
            have HBB := Aside0.mk Q_HBB
            have HC69 := Aside0.mk (Q_HC69 (hon 11 (by kernel_rfl)))
            have hcv := Kd.C_string (P := Try.prog) (c := d1) Try.underlying27 Try.underlying5 Try.underlying9 HC69.out
            refine value_ (w1 := w') (v := .string (strOfNums [p + 32])) (wanted_on rfl rfl rfl (e64.trans (by first | rfl | (simp [*]; done)))) rfl ?_ ?_
            · go_simp
              (try simp only [i64_w])
              try (first | rfl | assumption)
            refine hK.out _ _ ⟨B1, d1, m11_, (by rw [ha.out]; exact putSel_upk 12 hb_ rfl rfl rfl), Q_HBB, Q_HC69, Q_X11_⟩
          refine steps_cons ?_ ?_
          · intro b a w' hI_ hb_ hon hoff
            refine ⟨_, rfl, fun K hK => ?_⟩
            obtain ⟨B1, d1, m11_, ha, Q_HBB, Q_HC69, Q_X11_⟩ := hI_
            have e66 : a.tmps[66]? = some (.string (strOfNums [p + 32])) := by rw [ha]; exact putSel_on (e := (8, 66, .string (strOfNums [p + 32]))) 8 rfl rfl (hon 8 (by kernel_rfl)) rfl
            have e70 : a.tmps[70]? = some (.string (strOfNums [p + 32])) := by rw [ha]; exact putSel_on (e := (12, 70, .string (strOfNums [p + 32]))) 12 rfl rfl (hon 12 (by kernel_rfl)) rfl
            have e64 : a.tmps[64]? = some (.bool true) := by rw [ha]; exact putSel_on (e := (6, 64, .bool true)) 6 rfl rfl (hon 6 (by kernel_rfl)) rfl
            replace ha := Aside0.mk ha
            have HBB := Aside0.mk Q_HBB
            have HC69 := Aside0.mk (Q_HC69 (hon 11 (by kernel_rfl)))
            refine value_ (w1 := w') (v := .bool false) (wanted_on rfl rfl rfl (e64.trans (by first | rfl | (simp [*]; done)))) rfl ?_ ?_
            · go_simp
              (try simp only [i64_w])
              try (first | rfl | assumption)
            refine hK.out _ _ ⟨B1, d1, m11_, (by rw [ha.out]; exact putSel_upk 13 hb_ rfl rfl rfl), Q_HBB, Q_HC69, Q_X11_⟩
          refine steps_cons ?_ ?_
          · intro b a w' hI_ hb_ hon hoff
            refine ⟨_, rfl, fun K hK => ?_⟩
            obtain ⟨B1, d1, m11_, ha, Q_HBB, Q_HC69, Q_X11_⟩ := hI_
            have e64 : a.tmps[64]? = some (.bool true) := by rw [ha]; exact putSel_on (e := (6, 64, .bool true)) 6 rfl rfl (hon 6 (by kernel_rfl)) rfl
            have e71 : a.tmps[71]? = some (.bool false) := by rw [ha]; exact putSel_on (e := (13, 71, .bool false)) 13 rfl rfl (hon 13 (by kernel_rfl)) rfl
            replace ha := Aside0.mk ha
            have HBB := Aside0.mk Q_HBB
            have HC69 := Aside0.mk (Q_HC69 (hon 11 (by kernel_rfl)))
            refine value_ (w1 := w') (v := .bool false) (by rfl) rfl ?_ ?_
            · go_simp
              (try simp only [i64_w])
              try (first | rfl | assumption)
            refine hK.out _ _ ⟨B1, d1, m11_, (by rw [ha.out]; exact putSel_upk 14 hb_ rfl rfl rfl), Q_HBB, Q_HC69, Q_X11_⟩
          exact steps_nil
        rintro b a wz hall ⟨B1, d1, m11_, ha, Q_HBB, Q_HC69, Q_X11_⟩
        clear HBB
        have hb0_ := hall 0 (by kernel_rfl)
        have hb1_ := hall 1 (by kernel_rfl)
        have hb2_ := hall 2 (by kernel_rfl)
        have hb3_ := hall 3 (by kernel_rfl)
        have hb4_ := hall 4 (by kernel_rfl)
        have hb5_ := hall 5 (by kernel_rfl)
        have hb6_ := hall 6 (by kernel_rfl)
        have hb7_ := hall 7 (by kernel_rfl)
        have hb8_ := hall 8 (by kernel_rfl)
        have hb9_ := hall 9 (by kernel_rfl)
        have hb10_ := hall 10 (by kernel_rfl)
        have hb11_ := hall 11 (by kernel_rfl)
        have hb12_ := hall 12 (by kernel_rfl)
        have hb13_ := hall 13 (by kernel_rfl)
        have hb14_ := hall 14 (by kernel_rfl)
        subst ha
        obtain rfl := Q_X11_ hb11_
        simp only [putSel, hb0_, hb1_, hb2_, hb3_, hb4_, hb5_, hb6_, hb7_, hb8_, hb9_, hb10_, hb11_, hb12_, hb13_, hb14_, if_true, Act.put, List.setIfInBounds_toArray, List.set_cons_zero, List.set_cons_succ]
        have HBB := Aside0.mk Q_HBB
        clear Q_HBB
        have HC69 := Aside0.mk (Q_HC69 hb11_)
        clear Q_HC69
        clear hall hb0_ hb1_ hb2_ hb3_ hb4_ hb5_ hb6_ hb7_ hb8_ hb9_ hb10_ hb11_ hb12_ hb13_ hb14_
        go_wp2
        go_meet
        case rel => exact ⟨rfl, ⟨(by repeat (first | (with_reducible first | exact HBB.out | apply below_alloc | apply pw_below_drewN | apply below_drew1) | exact HBB.out))⟩⟩
      · have e2 : decide (p ≤ 90) = false := decide_eq_false h2
        refine start_ (n := 15) (S := fun w' => True) (ds := []) #[false, false, false, false, false, false, false, false, false, false, false, false, false, false, false] (by kernel_rfl) rfl rfl trivial (fun hHeld => ?_); refine with_tabW D6.tab7 D6.bits7 (fun HT_ HW_ => ?_)
        refine inv_at [0, 1, 2, 3, 4, 5, 6, 7, 8, 9, 10, 11, 12, 13, 14] (fun a0_ b a w' => a = putSel a0_ b [(0, 58, .int .u8 p), (1, 59, .bool true), (2, 60, .bool true), (3, 61, .int .u8 p), (4, 62, .bool false), (5, 63, .bool false), (6, 64, .bool false), (7, 65, undef), (8, 66, undef), (9, 67, undef), (10, 68, undef), (11, 69, undef), (12, 70, undef), (13, 71, undef), (14, 72, (Value.bool false))] ∧ (Below w.heap.size w w')) HT_.out HW_.out (by kernel_rfl) (by kernel_rfl) ?_ ?_ ?_
        · exact ⟨by simp only [putSel, Bool.false_eq_true, if_false], (by repeat (first | (with_reducible first | exact HBB.out | apply below_alloc | apply pw_below_drewN | apply below_drew1) | exact HBB.out))⟩
        · clear HT_ HW_ hHeld
          clear HBB
          refine steps_cons ?_ ?_
          · intro b a w' hI_ hb_ hon hoff
            refine ⟨_, rfl, fun K hK => ?_⟩
            obtain ⟨ha, Q_HBB⟩ := hI_
            have e0 : a.tmps[0]? = some (.int .u8 p) := by rw [ha]; exact (putSel_off rfl).trans rfl
            replace ha := Aside0.mk ha
            have HBB := Aside0.mk Q_HBB
            refine value_ (w1 := w') (v := .int .u8 p) (by rfl) rfl ?_ ?_
            · go_simp
              (try simp only [i64_w])
              try (first | rfl | assumption)
            refine hK.out _ _ ⟨(by rw [ha.out]; exact putSel_upk 0 hb_ rfl rfl rfl), Q_HBB⟩
          refine steps_cons ?_ ?_
          · intro b a w' hI_ hb_ hon hoff
            refine ⟨_, rfl, fun K hK => ?_⟩
            obtain ⟨ha, Q_HBB⟩ := hI_
            have e58 : a.tmps[58]? = some (.int .u8 p) := by rw [ha]; exact putSel_on (e := (0, 58, .int .u8 p)) 0 rfl rfl (hon 0 (by kernel_rfl)) rfl
            replace ha := Aside0.mk ha
            have HBB := Aside0.mk Q_HBB
            refine value_ (w1 := w') (v := .bool true) (by rfl) rfl ?_ ?_
            · go_simp
              (try simp only [i64_w])
              try (first | rfl | assumption)
            refine hK.out _ _ ⟨(by rw [ha.out]; exact putSel_upk 1 hb_ rfl rfl rfl), Q_HBB⟩
          refine steps_cons ?_ ?_
          · intro b a w' hI_ hb_ hon hoff
            refine ⟨_, rfl, fun K hK => ?_⟩
            obtain ⟨ha, Q_HBB⟩ := hI_
            have e59 : a.tmps[59]? = some (.bool true) := by rw [ha]; exact putSel_on (e := (1, 59, .bool true)) 1 rfl rfl (hon 1 (by kernel_rfl)) rfl
            replace ha := Aside0.mk ha
            have HBB := Aside0.mk Q_HBB
            refine value_ (w1 := w') (v := .bool true) (by rfl) rfl ?_ ?_
            · go_simp
              (try simp only [i64_w])
              try (first | rfl | assumption)
            refine hK.out _ _ ⟨(by rw [ha.out]; exact putSel_upk 2 hb_ rfl rfl rfl), Q_HBB⟩
          refine steps_cons ?_ ?_
          · intro b a w' hI_ hb_ hon hoff
            refine ⟨_, rfl, fun K hK => ?_⟩
            obtain ⟨ha, Q_HBB⟩ := hI_
            have e0 : a.tmps[0]? = some (.int .u8 p) := by rw [ha]; exact (putSel_off rfl).trans rfl
            have e60 : a.tmps[60]? = some (.bool true) := by rw [ha]; exact putSel_on (e := (2, 60, .bool true)) 2 rfl rfl (hon 2 (by kernel_rfl)) rfl
            replace ha := Aside0.mk ha
            have HBB := Aside0.mk Q_HBB
            refine value_ (w1 := w') (v := .int .u8 p) (wanted_on rfl rfl rfl (e60.trans (by first | rfl | (simp [*]; done)))) rfl ?_ ?_
            · go_simp
              (try simp only [i64_w])
              try (first | rfl | assumption)
            refine hK.out _ _ ⟨(by rw [ha.out]; exact putSel_upk 3 hb_ rfl rfl rfl), Q_HBB⟩
          refine steps_cons ?_ ?_
          · intro b a w' hI_ hb_ hon hoff
            refine ⟨_, rfl, fun K hK => ?_⟩
            obtain ⟨ha, Q_HBB⟩ := hI_
            have e61 : a.tmps[61]? = some (.int .u8 p) := by rw [ha]; exact putSel_on (e := (3, 61, .int .u8 p)) 3 rfl rfl (hon 3 (by kernel_rfl)) rfl
            have e60 : a.tmps[60]? = some (.bool true) := by rw [ha]; exact putSel_on (e := (2, 60, .bool true)) 2 rfl rfl (hon 2 (by kernel_rfl)) rfl
            replace ha := Aside0.mk ha
            have HBB := Aside0.mk Q_HBB
            refine value_ (w1 := w') (v := .bool false) (wanted_on rfl rfl rfl (e60.trans (by first | rfl | (simp [*]; done)))) rfl ?_ ?_
            · go_simp
              (try simp only [i64_w])
              try (first | rfl | assumption)
            refine hK.out _ _ ⟨(by rw [ha.out]; exact putSel_upk 4 hb_ rfl rfl rfl), Q_HBB⟩
          refine steps_cons ?_ ?_
          · intro b a w' hI_ hb_ hon hoff
            refine ⟨_, rfl, fun K hK => ?_⟩
            obtain ⟨ha, Q_HBB⟩ := hI_
            have e60 : a.tmps[60]? = some (.bool true) := by rw [ha]; exact putSel_on (e := (2, 60, .bool true)) 2 rfl rfl (hon 2 (by kernel_rfl)) rfl
            have e62 : a.tmps[62]? = some (.bool false) := by rw [ha]; exact putSel_on (e := (4, 62, .bool false)) 4 rfl rfl (hon 4 (by kernel_rfl)) rfl
            replace ha := Aside0.mk ha
            have HBB := Aside0.mk Q_HBB
            refine value_ (w1 := w') (v := .bool false) (by rfl) rfl ?_ ?_
            · go_simp
              (try simp only [i64_w])
              try (first | rfl | assumption)
            refine hK.out _ _ ⟨(by rw [ha.out]; exact putSel_upk 5 hb_ rfl rfl rfl), Q_HBB⟩
          refine steps_cons ?_ ?_
          · intro b a w' hI_ hb_ hon hoff
            refine ⟨_, rfl, fun K hK => ?_⟩
            obtain ⟨ha, Q_HBB⟩ := hI_
            have e63 : a.tmps[63]? = some (.bool false) := by rw [ha]; exact putSel_on (e := (5, 63, .bool false)) 5 rfl rfl (hon 5 (by kernel_rfl)) rfl
            replace ha := Aside0.mk ha
            have HBB := Aside0.mk Q_HBB
            refine value_ (w1 := w') (v := .bool false) (by rfl) rfl ?_ ?_
            · go_simp
              (try simp only [i64_w])
              try (first | rfl | assumption)
            refine hK.out _ _ ⟨(by rw [ha.out]; exact putSel_upk 6 hb_ rfl rfl rfl), Q_HBB⟩
          refine steps_cons ?_ ?_
          · intro b a w' hI_ hb_ hon hoff
            refine ⟨_, rfl, fun K hK => ?_⟩
            obtain ⟨ha, Q_HBB⟩ := hI_
            have e64 : a.tmps[64]? = some (.bool false) := by rw [ha]; exact putSel_on (e := (6, 64, .bool false)) 6 rfl rfl (hon 6 (by kernel_rfl)) rfl
            replace ha := Aside0.mk ha
            have HBB := Aside0.mk Q_HBB
            refine off_ (wanted_off rfl rfl rfl (e64.trans (by first | rfl | (simp [*]; done)))) ?_
            refine hK.out _ _ ⟨(by rw [ha.out]; exact putSel_upk 7 hb_ rfl rfl rfl), Q_HBB⟩
          refine steps_cons ?_ ?_
          · intro b a w' hI_ hb_ hon hoff
            refine ⟨_, rfl, fun K hK => ?_⟩
            obtain ⟨ha, Q_HBB⟩ := hI_
            have e64 : a.tmps[64]? = some (.bool false) := by rw [ha]; exact putSel_on (e := (6, 64, .bool false)) 6 rfl rfl (hon 6 (by kernel_rfl)) rfl
            replace ha := Aside0.mk ha
            have HBB := Aside0.mk Q_HBB
            refine off_ (wanted_off rfl rfl rfl (e64.trans (by first | rfl | (simp [*]; done)))) ?_
            refine hK.out _ _ ⟨(by rw [ha.out]; exact putSel_upk 8 hb_ rfl rfl rfl), Q_HBB⟩
          refine steps_cons ?_ ?_
          · intro b a w' hI_ hb_ hon hoff
            refine ⟨_, rfl, fun K hK => ?_⟩
            obtain ⟨ha, Q_HBB⟩ := hI_
            have e64 : a.tmps[64]? = some (.bool false) := by rw [ha]; exact putSel_on (e := (6, 64, .bool false)) 6 rfl rfl (hon 6 (by kernel_rfl)) rfl
            replace ha := Aside0.mk ha
            have HBB := Aside0.mk Q_HBB
            refine off_ (wanted_off rfl rfl rfl (e64.trans (by first | rfl | (simp [*]; done)))) ?_
            refine hK.out _ _ ⟨(by rw [ha.out]; exact putSel_upk 9 hb_ rfl rfl rfl), Q_HBB⟩
          refine steps_cons ?_ ?_
          · intro b a w' hI_ hb_ hon hoff
            refine ⟨_, rfl, fun K hK => ?_⟩
            obtain ⟨ha, Q_HBB⟩ := hI_
            have e64 : a.tmps[64]? = some (.bool false) := by rw [ha]; exact putSel_on (e := (6, 64, .bool false)) 6 rfl rfl (hon 6 (by kernel_rfl)) rfl
            replace ha := Aside0.mk ha
            have HBB := Aside0.mk Q_HBB
            refine off_ (wanted_off rfl rfl rfl (e64.trans (by first | rfl | (simp [*]; done)))) ?_
            refine hK.out _ _ ⟨(by rw [ha.out]; exact putSel_upk 10 hb_ rfl rfl rfl), Q_HBB⟩
          refine steps_cons ?_ ?_
          · intro b a w' hI_ hb_ hon hoff
            refine ⟨_, rfl, fun K hK => ?_⟩
            obtain ⟨ha, Q_HBB⟩ := hI_
            have e64 : a.tmps[64]? = some (.bool false) := by rw [ha]; exact putSel_on (e := (6, 64, .bool false)) 6 rfl rfl (hon 6 (by kernel_rfl)) rfl
            replace ha := Aside0.mk ha
            have HBB := Aside0.mk Q_HBB
            refine off_ (wanted_off rfl rfl rfl (e64.trans (by first | rfl | (simp [*]; done)))) ?_
            refine hK.out _ _ ⟨(by rw [ha.out]; exact putSel_upk 11 hb_ rfl rfl rfl), Q_HBB⟩
          refine steps_cons ?_ ?_
          · intro b a w' hI_ hb_ hon hoff
            refine ⟨_, rfl, fun K hK => ?_⟩
            obtain ⟨ha, Q_HBB⟩ := hI_
            have e64 : a.tmps[64]? = some (.bool false) := by rw [ha]; exact putSel_on (e := (6, 64, .bool false)) 6 rfl rfl (hon 6 (by kernel_rfl)) rfl
            replace ha := Aside0.mk ha
            have HBB := Aside0.mk Q_HBB
            refine off_ (wanted_off rfl rfl rfl (e64.trans (by first | rfl | (simp [*]; done)))) ?_
            refine hK.out _ _ ⟨(by rw [ha.out]; exact putSel_upk 12 hb_ rfl rfl rfl), Q_HBB⟩
          refine steps_cons ?_ ?_
          · intro b a w' hI_ hb_ hon hoff
            refine ⟨_, rfl, fun K hK => ?_⟩
            obtain ⟨ha, Q_HBB⟩ := hI_
            have e64 : a.tmps[64]? = some (.bool false) := by rw [ha]; exact putSel_on (e := (6, 64, .bool false)) 6 rfl rfl (hon 6 (by kernel_rfl)) rfl
            replace ha := Aside0.mk ha
            have HBB := Aside0.mk Q_HBB
            refine off_ (wanted_off rfl rfl rfl (e64.trans (by first | rfl | (simp [*]; done)))) ?_
            refine hK.out _ _ ⟨(by rw [ha.out]; exact putSel_upk 13 hb_ rfl rfl rfl), Q_HBB⟩
          refine steps_cons ?_ ?_
          · intro b a w' hI_ hb_ hon hoff
            refine ⟨_, rfl, fun K hK => ?_⟩
            obtain ⟨ha, Q_HBB⟩ := hI_
            have e64 : a.tmps[64]? = some (.bool false) := by rw [ha]; exact putSel_on (e := (6, 64, .bool false)) 6 rfl rfl (hon 6 (by kernel_rfl)) rfl
            have e71 : a.tmps[71]? = some (undef) := by rw [ha]; exact putSel_on (e := (13, 71, undef)) 13 rfl rfl (hon 13 (by kernel_rfl)) rfl
            replace ha := Aside0.mk ha
            have HBB := Aside0.mk Q_HBB
            refine value_ (w1 := w') (v := (Value.bool false)) (by rfl) rfl ?_ ?_
            · go_simp
              (try simp only [i64_w])
              try (first | rfl | assumption)
            refine hK.out _ _ ⟨(by rw [ha.out]; exact putSel_upk 14 hb_ rfl rfl rfl), Q_HBB⟩
          exact steps_nil
        rintro b a wz hall ⟨ha, Q_HBB⟩
        clear HBB
        have hb0_ := hall 0 (by kernel_rfl)
        have hb1_ := hall 1 (by kernel_rfl)
        have hb2_ := hall 2 (by kernel_rfl)
        have hb3_ := hall 3 (by kernel_rfl)
        have hb4_ := hall 4 (by kernel_rfl)
        have hb5_ := hall 5 (by kernel_rfl)
        have hb6_ := hall 6 (by kernel_rfl)
        have hb7_ := hall 7 (by kernel_rfl)
        have hb8_ := hall 8 (by kernel_rfl)
        have hb9_ := hall 9 (by kernel_rfl)
        have hb10_ := hall 10 (by kernel_rfl)
        have hb11_ := hall 11 (by kernel_rfl)
        have hb12_ := hall 12 (by kernel_rfl)
        have hb13_ := hall 13 (by kernel_rfl)
        have hb14_ := hall 14 (by kernel_rfl)
        subst ha
        simp only [putSel, hb0_, hb1_, hb2_, hb3_, hb4_, hb5_, hb6_, hb7_, hb8_, hb9_, hb10_, hb11_, hb12_, hb13_, hb14_, if_true, Act.put, List.setIfInBounds_toArray, List.set_cons_zero, List.set_cons_succ]
        have HBB := Aside0.mk Q_HBB
        clear Q_HBB
        clear hall hb0_ hb1_ hb2_ hb3_ hb4_ hb5_ hb6_ hb7_ hb8_ hb9_ hb10_ hb11_ hb12_ hb13_ hb14_
        go_wp2
        go_meet
        case rel => exact ⟨rfl, ⟨(by repeat (first | (with_reducible first | exact HBB.out | apply below_alloc | apply pw_below_drewN | apply below_drew1) | exact HBB.out))⟩⟩
    · have e1 : decide ((65 : Int) ≤ p) = false := decide_eq_false h1
      refine start_ (n := 15) (S := fun w' => True) (ds := []) #[false, false, false, false, false, false, false, false, false, false, false, false, false, false, false] (by kernel_rfl) rfl rfl trivial (fun hHeld => ?_); refine with_tabW D6.tab7 D6.bits7 (fun HT_ HW_ => ?_)
      refine inv_at [0, 1, 2, 3, 4, 5, 6, 7, 8, 9, 10, 11, 12, 13, 14] (fun a0_ b a w' => a = putSel a0_ b [(0, 58, .int .u8 p), (1, 59, .bool false), (2, 60, .bool false), (3, 61, undef), (4, 62, undef), (5, 63, (Value.bool false)), (6, 64, (Value.bool false)), (7, 65, undef), (8, 66, undef), (9, 67, undef), (10, 68, undef), (11, 69, undef), (12, 70, undef), (13, 71, undef), (14, 72, (Value.bool false))] ∧ (Below w.heap.size w w')) HT_.out HW_.out (by kernel_rfl) (by kernel_rfl) ?_ ?_ ?_
      · exact ⟨by simp only [putSel, Bool.false_eq_true, if_false], (by repeat (first | (with_reducible first | exact HBB.out | apply below_alloc | apply pw_below_drewN | apply below_drew1) | exact HBB.out))⟩
      · clear HT_ HW_ hHeld
        clear HBB
        refine steps_cons ?_ ?_
        · intro b a w' hI_ hb_ hon hoff
          refine ⟨_, rfl, fun K hK => ?_⟩
          obtain ⟨ha, Q_HBB⟩ := hI_
          have e0 : a.tmps[0]? = some (.int .u8 p) := by rw [ha]; exact (putSel_off rfl).trans rfl
          replace ha := Aside0.mk ha
          have HBB := Aside0.mk Q_HBB
          refine value_ (w1 := w') (v := .int .u8 p) (by rfl) rfl ?_ ?_
          · go_simp
            (try simp only [i64_w])
            try (first | rfl | assumption)
          refine hK.out _ _ ⟨(by rw [ha.out]; exact putSel_upk 0 hb_ rfl rfl rfl), Q_HBB⟩
        refine steps_cons ?_ ?_
        · intro b a w' hI_ hb_ hon hoff
          refine ⟨_, rfl, fun K hK => ?_⟩
          obtain ⟨ha, Q_HBB⟩ := hI_
          have e58 : a.tmps[58]? = some (.int .u8 p) := by rw [ha]; exact putSel_on (e := (0, 58, .int .u8 p)) 0 rfl rfl (hon 0 (by kernel_rfl)) rfl
          replace ha := Aside0.mk ha
          have HBB := Aside0.mk Q_HBB
          refine value_ (w1 := w') (v := .bool false) (by rfl) rfl ?_ ?_
          · go_simp
            (try simp only [i64_w])
            try (first | rfl | assumption)
          refine hK.out _ _ ⟨(by rw [ha.out]; exact putSel_upk 1 hb_ rfl rfl rfl), Q_HBB⟩
        refine steps_cons ?_ ?_
        · intro b a w' hI_ hb_ hon hoff
          refine ⟨_, rfl, fun K hK => ?_⟩
          obtain ⟨ha, Q_HBB⟩ := hI_
          have e59 : a.tmps[59]? = some (.bool false) := by rw [ha]; exact putSel_on (e := (1, 59, .bool false)) 1 rfl rfl (hon 1 (by kernel_rfl)) rfl
          replace ha := Aside0.mk ha
          have HBB := Aside0.mk Q_HBB
          refine value_ (w1 := w') (v := .bool false) (by rfl) rfl ?_ ?_
          · go_simp
            (try simp only [i64_w])
            try (first | rfl | assumption)
          refine hK.out _ _ ⟨(by rw [ha.out]; exact putSel_upk 2 hb_ rfl rfl rfl), Q_HBB⟩
        refine steps_cons ?_ ?_
        · intro b a w' hI_ hb_ hon hoff
          refine ⟨_, rfl, fun K hK => ?_⟩
          obtain ⟨ha, Q_HBB⟩ := hI_
          have e60 : a.tmps[60]? = some (.bool false) := by rw [ha]; exact putSel_on (e := (2, 60, .bool false)) 2 rfl rfl (hon 2 (by kernel_rfl)) rfl
          replace ha := Aside0.mk ha
          have HBB := Aside0.mk Q_HBB
          refine off_ (wanted_off rfl rfl rfl (e60.trans (by first | rfl | (simp [*]; done)))) ?_
          refine hK.out _ _ ⟨(by rw [ha.out]; exact putSel_upk 3 hb_ rfl rfl rfl), Q_HBB⟩
        refine steps_cons ?_ ?_
        · intro b a w' hI_ hb_ hon hoff
          refine ⟨_, rfl, fun K hK => ?_⟩
          obtain ⟨ha, Q_HBB⟩ := hI_
          have e60 : a.tmps[60]? = some (.bool false) := by rw [ha]; exact putSel_on (e := (2, 60, .bool false)) 2 rfl rfl (hon 2 (by kernel_rfl)) rfl
          replace ha := Aside0.mk ha
          have HBB := Aside0.mk Q_HBB
          refine off_ (wanted_off rfl rfl rfl (e60.trans (by first | rfl | (simp [*]; done)))) ?_
          refine hK.out _ _ ⟨(by rw [ha.out]; exact putSel_upk 4 hb_ rfl rfl rfl), Q_HBB⟩
        refine steps_cons ?_ ?_
        · intro b a w' hI_ hb_ hon hoff
          refine ⟨_, rfl, fun K hK => ?_⟩
          obtain ⟨ha, Q_HBB⟩ := hI_
          have e60 : a.tmps[60]? = some (.bool false) := by rw [ha]; exact putSel_on (e := (2, 60, .bool false)) 2 rfl rfl (hon 2 (by kernel_rfl)) rfl
          have e62 : a.tmps[62]? = some (undef) := by rw [ha]; exact putSel_on (e := (4, 62, undef)) 4 rfl rfl (hon 4 (by kernel_rfl)) rfl
          replace ha := Aside0.mk ha
          have HBB := Aside0.mk Q_HBB
          refine value_ (w1 := w') (v := (Value.bool false)) (by rfl) rfl ?_ ?_
          · go_simp
            (try simp only [i64_w])
            try (first | rfl | assumption)
          refine hK.out _ _ ⟨(by rw [ha.out]; exact putSel_upk 5 hb_ rfl rfl rfl), Q_HBB⟩
        refine steps_cons ?_ ?_
        · intro b a w' hI_ hb_ hon hoff
          refine ⟨_, rfl, fun K hK => ?_⟩
          obtain ⟨ha, Q_HBB⟩ := hI_
          have e63 : a.tmps[63]? = some ((Value.bool false)) := by rw [ha]; exact putSel_on (e := (5, 63, (Value.bool false))) 5 rfl rfl (hon 5 (by kernel_rfl)) rfl
          replace ha := Aside0.mk ha
          have HBB := Aside0.mk Q_HBB
          refine value_ (w1 := w') (v := (Value.bool false)) (by rfl) rfl ?_ ?_
          · go_simp
            (try simp only [i64_w])
            try (first | rfl | assumption)
          refine hK.out _ _ ⟨(by rw [ha.out]; exact putSel_upk 6 hb_ rfl rfl rfl), Q_HBB⟩
        refine steps_cons ?_ ?_
        · intro b a w' hI_ hb_ hon hoff
          refine ⟨_, rfl, fun K hK => ?_⟩
          obtain ⟨ha, Q_HBB⟩ := hI_
          have e64 : a.tmps[64]? = some ((Value.bool false)) := by rw [ha]; exact putSel_on (e := (6, 64, (Value.bool false))) 6 rfl rfl (hon 6 (by kernel_rfl)) rfl
          replace ha := Aside0.mk ha
          have HBB := Aside0.mk Q_HBB
          refine off_ (wanted_off rfl rfl rfl (e64.trans (by first | rfl | (simp [*]; done)))) ?_
          refine hK.out _ _ ⟨(by rw [ha.out]; exact putSel_upk 7 hb_ rfl rfl rfl), Q_HBB⟩
        refine steps_cons ?_ ?_
        · intro b a w' hI_ hb_ hon hoff
          refine ⟨_, rfl, fun K hK => ?_⟩
          obtain ⟨ha, Q_HBB⟩ := hI_
          have e64 : a.tmps[64]? = some ((Value.bool false)) := by rw [ha]; exact putSel_on (e := (6, 64, (Value.bool false))) 6 rfl rfl (hon 6 (by kernel_rfl)) rfl
          replace ha := Aside0.mk ha
          have HBB := Aside0.mk Q_HBB
          refine off_ (wanted_off rfl rfl rfl (e64.trans (by first | rfl | (simp [*]; done)))) ?_
          refine hK.out _ _ ⟨(by rw [ha.out]; exact putSel_upk 8 hb_ rfl rfl rfl), Q_HBB⟩
        refine steps_cons ?_ ?_
        · intro b a w' hI_ hb_ hon hoff
          refine ⟨_, rfl, fun K hK => ?_⟩
          obtain ⟨ha, Q_HBB⟩ := hI_
          have e64 : a.tmps[64]? = some ((Value.bool false)) := by rw [ha]; exact putSel_on (e := (6, 64, (Value.bool false))) 6 rfl rfl (hon 6 (by kernel_rfl)) rfl
          replace ha := Aside0.mk ha
          have HBB := Aside0.mk Q_HBB
          refine off_ (wanted_off rfl rfl rfl (e64.trans (by first | rfl | (simp [*]; done)))) ?_
          refine hK.out _ _ ⟨(by rw [ha.out]; exact putSel_upk 9 hb_ rfl rfl rfl), Q_HBB⟩
        refine steps_cons ?_ ?_
        · intro b a w' hI_ hb_ hon hoff
          refine ⟨_, rfl, fun K hK => ?_⟩
          obtain ⟨ha, Q_HBB⟩ := hI_
          have e64 : a.tmps[64]? = some ((Value.bool false)) := by rw [ha]; exact putSel_on (e := (6, 64, (Value.bool false))) 6 rfl rfl (hon 6 (by kernel_rfl)) rfl
          replace ha := Aside0.mk ha
          have HBB := Aside0.mk Q_HBB
          refine off_ (wanted_off rfl rfl rfl (e64.trans (by first | rfl | (simp [*]; done)))) ?_
          refine hK.out _ _ ⟨(by rw [ha.out]; exact putSel_upk 10 hb_ rfl rfl rfl), Q_HBB⟩
        refine steps_cons ?_ ?_
        · intro b a w' hI_ hb_ hon hoff
          refine ⟨_, rfl, fun K hK => ?_⟩
          obtain ⟨ha, Q_HBB⟩ := hI_
          have e64 : a.tmps[64]? = some ((Value.bool false)) := by rw [ha]; exact putSel_on (e := (6, 64, (Value.bool false))) 6 rfl rfl (hon 6 (by kernel_rfl)) rfl
          replace ha := Aside0.mk ha
          have HBB := Aside0.mk Q_HBB
          refine off_ (wanted_off rfl rfl rfl (e64.trans (by first | rfl | (simp [*]; done)))) ?_
          refine hK.out _ _ ⟨(by rw [ha.out]; exact putSel_upk 11 hb_ rfl rfl rfl), Q_HBB⟩
        refine steps_cons ?_ ?_
        · intro b a w' hI_ hb_ hon hoff
          refine ⟨_, rfl, fun K hK => ?_⟩
          obtain ⟨ha, Q_HBB⟩ := hI_
          have e64 : a.tmps[64]? = some ((Value.bool false)) := by rw [ha]; exact putSel_on (e := (6, 64, (Value.bool false))) 6 rfl rfl (hon 6 (by kernel_rfl)) rfl
          replace ha := Aside0.mk ha
          have HBB := Aside0.mk Q_HBB
          refine off_ (wanted_off rfl rfl rfl (e64.trans (by first | rfl | (simp [*]; done)))) ?_
          refine hK.out _ _ ⟨(by rw [ha.out]; exact putSel_upk 12 hb_ rfl rfl rfl), Q_HBB⟩
        refine steps_cons ?_ ?_
        · intro b a w' hI_ hb_ hon hoff
          refine ⟨_, rfl, fun K hK => ?_⟩
          obtain ⟨ha, Q_HBB⟩ := hI_
          have e64 : a.tmps[64]? = some ((Value.bool false)) := by rw [ha]; exact putSel_on (e := (6, 64, (Value.bool false))) 6 rfl rfl (hon 6 (by kernel_rfl)) rfl
          replace ha := Aside0.mk ha
          have HBB := Aside0.mk Q_HBB
          refine off_ (wanted_off rfl rfl rfl (e64.trans (by first | rfl | (simp [*]; done)))) ?_
          refine hK.out _ _ ⟨(by rw [ha.out]; exact putSel_upk 13 hb_ rfl rfl rfl), Q_HBB⟩
        refine steps_cons ?_ ?_
        · intro b a w' hI_ hb_ hon hoff
          refine ⟨_, rfl, fun K hK => ?_⟩
          obtain ⟨ha, Q_HBB⟩ := hI_
          have e64 : a.tmps[64]? = some ((Value.bool false)) := by rw [ha]; exact putSel_on (e := (6, 64, (Value.bool false))) 6 rfl rfl (hon 6 (by kernel_rfl)) rfl
          have e71 : a.tmps[71]? = some (undef) := by rw [ha]; exact putSel_on (e := (13, 71, undef)) 13 rfl rfl (hon 13 (by kernel_rfl)) rfl
          replace ha := Aside0.mk ha
          have HBB := Aside0.mk Q_HBB
          refine value_ (w1 := w') (v := (Value.bool false)) (by rfl) rfl ?_ ?_
          · go_simp
            (try simp only [i64_w])
            try (first | rfl | assumption)
          refine hK.out _ _ ⟨(by rw [ha.out]; exact putSel_upk 14 hb_ rfl rfl rfl), Q_HBB⟩
        exact steps_nil
      rintro b a wz hall ⟨ha, Q_HBB⟩
      clear HBB
      have hb0_ := hall 0 (by kernel_rfl)
      have hb1_ := hall 1 (by kernel_rfl)
      have hb2_ := hall 2 (by kernel_rfl)
      have hb3_ := hall 3 (by kernel_rfl)
      have hb4_ := hall 4 (by kernel_rfl)
      have hb5_ := hall 5 (by kernel_rfl)
      have hb6_ := hall 6 (by kernel_rfl)
      have hb7_ := hall 7 (by kernel_rfl)
      have hb8_ := hall 8 (by kernel_rfl)
      have hb9_ := hall 9 (by kernel_rfl)
      have hb10_ := hall 10 (by kernel_rfl)
      have hb11_ := hall 11 (by kernel_rfl)
      have hb12_ := hall 12 (by kernel_rfl)
      have hb13_ := hall 13 (by kernel_rfl)
      have hb14_ := hall 14 (by kernel_rfl)
      subst ha
      simp only [putSel, hb0_, hb1_, hb2_, hb3_, hb4_, hb5_, hb6_, hb7_, hb8_, hb9_, hb10_, hb11_, hb12_, hb13_, hb14_, if_true, Act.put, List.setIfInBounds_toArray, List.set_cons_zero, List.set_cons_succ]
      have HBB := Aside0.mk Q_HBB
      clear Q_HBB
      clear hall hb0_ hb1_ hb2_ hb3_ hb4_ hb5_ hb6_ hb7_ hb8_ hb9_ hb10_ hb11_ hb12_ hb13_ hb14_
      go_wp2
      go_meet
      case rel => exact ⟨rfl, ⟨(by repeat (first | (with_reducible first | exact HBB.out | apply below_alloc | apply pw_below_drewN | apply below_drew1) | exact HBB.out))⟩⟩
  case rest =>
  clear HB
  obtain ⟨rfl, HB⟩ := hcut
  obtain ⟨t, ht⟩ : ∃ t, t = strOfNums [p, q] := ⟨_, rfl⟩
  have htb : bytesOf t = [p, q] := by
    rw [ht]; exact bytesOf_strOfNums (fun c hc => by
      rcases List.mem_cons.1 hc with rfl | hc
      · omega
      · rw [List.mem_singleton] at hc; omega)
  have htz : t.size = 2 := by rw [← bytes_length, htb]; rfl
  have htz2 : t.size ≤ 1000000 := by omega
  have HT := Aside0.mk ht
  have HTB := Aside0.mk htb
  clear ht htb htz
  obtain ⟨tw, htw⟩ : ∃ x, x = two p q := ⟨_, rfl⟩
  have HTW := Aside0.mk htw
  clear htw
  have hcmp : ∀ x y : UInt8, (t.toList == [x, y]) = decide (p = (x.toNat : Int) ∧ q = (y.toNat : Int)) := fun x y => by
    have e : [x, y] = (⟨#[x, y]⟩ : ByteArray).toList := by rw [ByteArray.toList_eq]
    rw [e, str_beq', decide_eq_decide]
    constructor
    · intro h
      have h2 := congrArg bytesOf h
      rw [HTB.out] at h2
      have h3 : [p, q] = [(x.toNat : Int), (y.toNat : Int)] := h2
      simpa using h3
    · rintro ⟨h1, h2⟩
      apply bytesOf_inj
      rw [HTB.out, h1, h2]; rfl
  have HCMP := Aside0.mk hcmp
  clear hcmp
  go_upto_region 10 with (first
    | ((with_reducible refine gate_dst (N := 75) rfl ?_); refine Kd.R_lit (Kd.int .u8) (w0 := w) w.heap.size 5 ?hg (N := 75) ?hd (xs := [p, q]) (inner := [.int .u8 p, .int .u8 q]) (ok := fun _ => True) (okp := fun _ => True) ?hr ?hp (fun _ hk => hk) trivial ?hB ?hS (by simp) ?_; (case hd => rfl); (case hg => rfl); (case hr => first | (go_simp; done) | (go_simp; rfl)); (case hp => exact Kd.reps_scalar [p, q]); (case hB => exact (by repeat (first | (with_reducible first | exact HB.out | apply below_alloc | apply pw_below_drewN | apply below_drew1) | exact HB.out))); (case hS => exact (below_size (by repeat (first | (with_reducible first | exact HB.out | apply below_alloc | apply pw_below_drewN | apply below_drew1) | exact HB.out)))); intro v5 w5 ho hb hg hat; obtain ⟨A5, c5, rfl, hc, hC⟩ := Kd.R_reads ho; have HC5 := Aside0.mk hC; have n_ := Aside0.mk hb; clear HB hb hg hat hc hC ho; have HB := n_; clear n_)
    | ((with_reducible refine gate_dst (N := 76) rfl ?_); (try (refine gate_guard (by rfl) ?_; dsimp only)); refine Gen.ev_string' (t) rfl 27 9 5 (.tmp 75) rfl Try.underlying27 Try.underlying9 Try.underlying5 rfl HC5.out HT.out.symm ?_))
  go_cut [10] (fun v10 wc => v10 = .bool tw ∧ Aside0 (Below w.heap.size w wc))
  case first =>
    by_cases g0 : p = 195 ∧ q = 169
    · have f0 : (t.toList == ([195, 169] : List UInt8)) = true := by
        have h := HCMP.out 195 169
        rw [h]
        exact decide_eq_true (show  (p = 195 ∧ q = 169) by omega)
      obtain rfl : tw = true := by rw [HTW.out]; exact two_iff.2 (by omega)
      go_wp2
      go_meet
      case rel => exact ⟨rfl, ⟨(by repeat (first | (with_reducible first | exact HB.out | apply below_alloc | apply pw_below_drewN | apply below_drew1) | exact HB.out))⟩⟩
    · by_cases g1 : p = 195 ∧ q = 184
      · have f0 : (t.toList == ([195, 169] : List UInt8)) = false := by
          have h := HCMP.out 195 169
          rw [h]
          exact decide_eq_false (show ¬ (p = 195 ∧ q = 169) by omega)
        have f1 : (t.toList == ([195, 184] : List UInt8)) = true := by
          have h := HCMP.out 195 184
          rw [h]
          exact decide_eq_true (show  (p = 195 ∧ q = 184) by omega)
        obtain rfl : tw = true := by rw [HTW.out]; exact two_iff.2 (by omega)
        go_wp2
        go_meet
        case rel => exact ⟨rfl, ⟨(by repeat (first | (with_reducible first | exact HB.out | apply below_alloc | apply pw_below_drewN | apply below_drew1) | exact HB.out))⟩⟩
      · by_cases g2 : p = 195 ∧ q = 159
        · have f0 : (t.toList == ([195, 169] : List UInt8)) = false := by
            have h := HCMP.out 195 169
            rw [h]
            exact decide_eq_false (show ¬ (p = 195 ∧ q = 169) by omega)
          have f1 : (t.toList == ([195, 184] : List UInt8)) = false := by
            have h := HCMP.out 195 184
            rw [h]
            exact decide_eq_false (show ¬ (p = 195 ∧ q = 184) by omega)
          have f2 : (t.toList == ([195, 159] : List UInt8)) = true := by
            have h := HCMP.out 195 159
            rw [h]
            exact decide_eq_true (show  (p = 195 ∧ q = 159) by omega)
          obtain rfl : tw = true := by rw [HTW.out]; exact two_iff.2 (by omega)
          go_wp2
          go_meet
          case rel => exact ⟨rfl, ⟨(by repeat (first | (with_reducible first | exact HB.out | apply below_alloc | apply pw_below_drewN | apply below_drew1) | exact HB.out))⟩⟩
        · by_cases g3 : p = 206 ∧ q = 187
          · have f0 : (t.toList == ([195, 169] : List UInt8)) = false := by
              have h := HCMP.out 195 169
              rw [h]
              exact decide_eq_false (show ¬ (p = 195 ∧ q = 169) by omega)
            have f1 : (t.toList == ([195, 184] : List UInt8)) = false := by
              have h := HCMP.out 195 184
              rw [h]
              exact decide_eq_false (show ¬ (p = 195 ∧ q = 184) by omega)
            have f2 : (t.toList == ([195, 159] : List UInt8)) = false := by
              have h := HCMP.out 195 159
              rw [h]
              exact decide_eq_false (show ¬ (p = 195 ∧ q = 159) by omega)
            have f3 : (t.toList == ([206, 187] : List UInt8)) = true := by
              have h := HCMP.out 206 187
              rw [h]
              exact decide_eq_true (show  (p = 206 ∧ q = 187) by omega)
            obtain rfl : tw = true := by rw [HTW.out]; exact two_iff.2 (by omega)
            go_wp2
            go_meet
            case rel => exact ⟨rfl, ⟨(by repeat (first | (with_reducible first | exact HB.out | apply below_alloc | apply pw_below_drewN | apply below_drew1) | exact HB.out))⟩⟩
          · have f0 : (t.toList == ([195, 169] : List UInt8)) = false := by
              have h := HCMP.out 195 169
              rw [h]
              exact decide_eq_false (show ¬ (p = 195 ∧ q = 169) by omega)
            have f1 : (t.toList == ([195, 184] : List UInt8)) = false := by
              have h := HCMP.out 195 184
              rw [h]
              exact decide_eq_false (show ¬ (p = 195 ∧ q = 184) by omega)
            have f2 : (t.toList == ([195, 159] : List UInt8)) = false := by
              have h := HCMP.out 195 159
              rw [h]
              exact decide_eq_false (show ¬ (p = 195 ∧ q = 159) by omega)
            have f3 : (t.toList == ([206, 187] : List UInt8)) = false := by
              have h := HCMP.out 206 187
              rw [h]
              exact decide_eq_false (show ¬ (p = 206 ∧ q = 187) by omega)
            obtain rfl : tw = false := by rw [HTW.out]; exact Bool.eq_false_iff.2 (fun h => by rw [two_iff] at h; omega)
            go_wp2
            go_meet
            case rel => exact ⟨rfl, ⟨(by repeat (first | (with_reducible first | exact HB.out | apply below_alloc | apply pw_below_drewN | apply below_drew1) | exact HB.out))⟩⟩
  case rest =>
  clear HB
  obtain ⟨rfl, HB⟩ := hcut
  by_cases h128 : p < 128
  · have e1 : decide (p < 128) = true := decide_eq_true h128
    go_wp2
    go_ret
    exact ⟨rfl, (by repeat (first | (with_reducible first | exact HB.out | apply below_alloc | apply pw_below_drewN | apply below_drew1) | exact HB.out))⟩
  · have e1 : decide (p < 128) = false := decide_eq_false h128
    have HMT : Aside0 (mayL (bytesOf t) = tw) := ⟨by rw [HTB.out, mayTwo q (by omega), HTW.out]⟩
    go_wp2_with fail
    refine (mayC tw t _ htz2 HMT.out).mono ?_

    rintro e w_ ⟨rfl, hb⟩
    have n_ := Aside0.mk (below_step (by repeat (first | (with_reducible first | exact HB.out | apply below_alloc | apply pw_below_drewN | apply below_drew1) | exact HB.out)) hb); clear HB hb; have HB := n_; clear n_
    go_wp2
    go_ret
    exact ⟨rfl, (by repeat (first | (with_reducible first | exact HB.out | apply below_alloc | apply pw_below_drewN | apply below_drew1) | exact HB.out))⟩
end Go.Proofs.Ytkbnckpcllfikaa.Nam

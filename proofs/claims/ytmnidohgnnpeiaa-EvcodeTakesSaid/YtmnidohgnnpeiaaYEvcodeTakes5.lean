/- registrarref05.Take walked. registrarref05.All: its walk. The contract of evcode.All, in the form that the printed functions ask. What EvcodeTakes holds in memory: an event that was taken, in a block of its own. Rows of events as bytes. The statement EvcodeTakes: the walk of the law. -/
import Derived.Test.YtmnidohgnnpeiaaYEvcodeTakes1
import Derived.Test.YtmnidohgnnpeiaaYEvcodeTakes2
import Derived.Test.YtmnidohgnnpeiaaYEvcodeTakes3
import Derived.Test.YtmnidohgnnpeiaaYEvcodeTakes4
namespace Go.Proofs.Ytmnidohgnnpeiaa.Num
open Go.RowKit Go.Proofs.YtmnidohgnnpeiaaW.PrintWords Go.Proofs.YtmnidohgnnpeiaaW.PrintLast Go.Proofs.YtmnidohgnnpeiaaW.PrintMore Go.Proofs.Ytmnidohgnnpeiaa.Prt Go.Proofs.Ytmnidohgnnpeiaa.Nam
set_option linter.unusedVariables false
set_option linter.unusedSimpArgs false

theorem ref_start (w0 w1 w2 : World) (P : Nat → Prop) (g E : Nat) (l : List Int) (bad : Bool) (s : ByteArray) (hI : Rd 44 P w1 g l bad) (hb : Below g w0 w1) (hk : KeepBut w0 w1 g none) (gN : g < w0.heap.size) (PN : ∀ k, P k → k < w0.heap.size) (hy : isBytes l)
    (hE : E = w1.heap.size) (h2 : w2.heap[E]? = some (.cells #[.string ⟨#[]⟩, .string ⟨#[]⟩, .slice none 0 0, .slice none 0 0] 26 (0, 0))) (hb2 : Below w1.heap.size w1 w2) :
    Tr w0 ((((w2.setCell ⟨E, 0, none⟩ (.string s)).setCell ⟨E, 1, none⟩ (.string ⟨#[]⟩)).setCell ⟨E, 2, none⟩ (.slice none 0 0)).setCell ⟨E, 3, none⟩ (.slice none 0 0)) P g E l bad s ⟨#[]⟩ (.slice none 0 0) [] (.slice none 0 0) [] := by
  have hge : w0.heap.size ≤ E := by rw [hE]; exact hk.1
  have hgE : g ≠ E := by omega
  have hPE : ¬ P E := fun hp => by have := PN E hp; omega
  have hlt := hI.lt
  have k2 : ∀ (w : World) (i : Nat) (v : Value), KeepBut w (w.setCell ⟨E, i, none⟩ v) E none := fun w i v => (KeepBut.refl w E none).set_ i v
  refine ⟨((((hI.below hb2).kept (k2 _ 0 _) hgE hPE).kept (k2 _ 1 _) hgE hPE).kept (k2 _ 2 _) hgE hPE).kept (k2 _ 3 _) hgE hPE, ?_, Kd.R_nil _ _ _ _ _, Kd.R_nil _ _ _ _ _, ?_, ?_, gN, hge, PN, hy⟩
  · simpa using blk_set (blk_set (blk_set (blk_set h2 0 (.string s)) 1 (.string ⟨#[]⟩)) 2 (.slice none 0 0)) 3 (.slice none 0 0)
  · exact keep_far (keep_far (keep_far (keep_far (hk.trans (KeepBut.of_below hb2 g none) (.inl rfl)) hge _) hge _) hge _) hge _
  · have h0 : Below g w0 w2 := hb.trans (hb2.mono (by omega))
    have q : g ≤ E := by omega
    exact (((h0.setCell (p := ⟨E, 0, none⟩) q _).setCell (p := ⟨E, 1, none⟩) q _).setCell (p := ⟨E, 2, none⟩) q _).setCell (p := ⟨E, 3, none⟩) q _

theorem Rd.isBad {T : Nat} {P : Nat → Prop} {W : World} {g : Nat} {l : List Int} {bad : Bool} (h : Rd T P W g l bad) : W.cell? ⟨g, 1, none⟩ = some (.bool bad) := by
  obtain ⟨A, c, h1, _⟩ := h
  exact (blk_cell h1 1).trans rfl
theorem takeTs_succ {l3 : List Int} {b3 : Bool} {i : Nat} {tags : List ByteArray} {li : List Int} {bi : Bool} (h : takeTs i l3 b3 = (tags, li, bi)) : takeTs (i + 1) l3 b3 = (tags ++ [textOf li], aftT li, badT li bi) := by simp only [takeTs, h]
theorem takeFs_succ {l3 : List Int} {b3 : Bool} {i : Nat} {fl : List S35} {li : List Int} {bi : Bool} (h : takeFs i l3 b3 = (fl, li, bi)) : takeFs (i + 1) l3 b3 = (fl ++ [⟨textOf li, numOf (aftT li)⟩], aft (aftT li), badOf (aftT li) (badT li bi)) := by simp only [takeFs, h]
def D17.T7 : Bool × List (List Nat × List Nat) := (true, [([], []), ([0], [0]), ([], []), ([2], [2]), ([3], [3]), ([1, 4, 3], [1, 4]), ([0, 1, 2, 3, 4, 5], []), ([6, 5, 5, 0, 1, 2, 3, 4, 5], [5, 6])])
def D17.B7 : List Nat := [0, 1, 0, 4, 12, 31, 63, 127]
theorem D17.tab7 : rtab .any (opsOf Try.f17 7) = D17.T7 := by kernel_rfl
theorem D17.bits7 : waitsOk D17.T7.2 D17.B7 = true := by kernel_rfl
/-- What a call of the reference's Take leaves. -/
def RefPost (P : Nat → Prop) (w : World) (g : Nat) (x : S26) (c : Int) (l' : List Int) (b' : Bool) (e : Ending) (w' : World) : Prop :=
  ∃ v2 v3 l2 b2, e = .returned (.tuple #[.agg #[.string x.f0, .string x.f1, v2, v3], .int .i64 c]) ∧ Kd.string.R 9 w' w.heap.size (fun _ => True) v2 x.f2 ∧ k35.R 35 w' w.heap.size (fun _ => True) v3 x.f3 ∧
      Rd 44 P w' g l2 b2 ∧ isBytes l2 ∧ (c = 0 → l2 = l' ∧ b2 = b') ∧ Below g w w' ∧ KeepBut w w' g none
set_option maxHeartbeats 4000000 in
theorem refTake_walk (P : Nat → Prop) (w : World) (g : Nat) (l : List Int) (hI : Rd 44 P w g l false) (hb : isBytes l) (hP : ∀ k, P k → k < w.heap.size) (x : S26) (c : Int) (l' : List Int) (b' : Bool) (hx : takeE l false = (x, c, l', b')) :
    Calls Try.prog 17 #[.pointer (some ⟨g, 0, none⟩)] w fun e w' => RefPost P w g x c l' b' e w' := by
  have HI := Aside0.mk hI
  have HBY := Aside0.mk hb
  have HP := Aside0.mk hP
  have HSL := Aside0.mk hI.len
  have HSZ := Aside0.mk (Nat.le_trans (textOf_size l hb) hI.len)
  have HSY := Aside0.mk (Nat.le_trans (textOf_size (aftT l) (aftT_bytes hb)) (Nat.le_trans (aftT_len l hb) hI.len))
  have HX := Aside0.mk hx
  have HGW := Aside0.mk hI.lt
  clear hI hb hP hx
  have hu26 := Try.underlying26
  have hu35 := Try.underlying35
  go_enter Try.func17, Try.ntmps17
  go_wp2_with fail
  obtain ⟨w0, hw0⟩ : ∃ w0, w0 = w.alloc (.cells #[.string ⟨#[]⟩, .string ⟨#[]⟩, .slice none 0 0, .slice none 0 0] 26 (0, 0)) := ⟨_, rfl⟩
  have HZ := Aside0.mk (show w0.heap.size = w.heap.size + 1 by rw [hw0]; simp only [World.size_alloc])
  have HQ := Aside0.mk (show w0.heap[w.heap.size]? = some (.cells #[.string ⟨#[]⟩, .string ⟨#[]⟩, .slice none 0 0, .slice none 0 0] 26 (0, 0)) by rw [hw0]; exact heap_alloc_new w _)
  have HB0 := Aside0.mk (show Below w.heap.size w w0 by rw [hw0]; exact below_alloc (Below.refl _ _) _)
  rw [← hw0]
  have HI0 := Aside0.mk (HI.out.below HB0.out)
  have HP0 := Aside0.mk (show ∀ k, P k → k < w0.heap.size from fun k hk => by have := HP.out k hk; rw [HZ.out]; omega)
  have HG0 := Aside0.mk (show g < w0.heap.size by rw [HZ.out]; have := HGW.out; omega)
  clear hw0 HI
  obtain ⟨Q, hQ⟩ : ∃ Q, Q = w.heap.size := ⟨_, rfl⟩
  rw [← hQ] at HQ ⊢
  have HQN := Aside0.mk (show Q < w0.heap.size ∧ w.heap.size ≤ Q by rw [HZ.out]; omega)
  clear hQ
  refine (refText_calls P w0 g l false HI0.out HBY.out).mono ?_
  rintro e w1 ⟨rfl, hI, hb, hk⟩
  obtain ⟨s, hs⟩ : ∃ s, s = textOf l := ⟨_, rfl⟩
  rw [← hs]
  have HS := Aside0.mk hs
  have HI1 := Aside0.mk hI
  have HB1 := Aside0.mk hb
  have HK1 := Aside0.mk hk
  have HBY1 := Aside0.mk (aftT_bytes HBY.out)
  clear hs hI hb hk HI0
  go_wp2_with (first | ((with_reducible refine gate_dst (N := 4) rfl ?_); refine box_event ?hg (N := 4) ?hd (cs := #[.string (⟨#[]⟩ : ByteArray), .string (⟨#[]⟩ : ByteArray), .slice none 0 0, .slice none 0 0]) (t := 26) ?hr ?_; (case hd => rfl); (case hg => rfl); (case hr => first | (go_simp; done) | (go_simp; rfl)); intro E hg w2 hbox hb; have HE := Aside0.mk hg; have HBX := Aside0.mk hbox; have HB2 := Aside0.mk hb; clear hg hbox hb; have hb0 := blk_cell HBX.out 0; have hb1 := blk_cell HBX.out 1; have hb2 := blk_cell HBX.out 2; have hb3 := blk_cell HBX.out 3; have hf0 := blk_frozen HBX.out 0; have hf1 := blk_frozen HBX.out 1; have hf2 := blk_frozen HBX.out 2; have hf3 := blk_frozen HBX.out 3))
  have HT3 := Aside0.mk (ref_start w0 w1 w2 P g E (aftT l) (badT l false) s HI1.out HB1.out HK1.out HG0.out HP0.out HBY1.out HE.out HBX.out HB2.out)
  clear hb0 hb1 hb2 hb3 hf0 hf1 hf2 hf3 HI1 HB1 HK1 HBX HB2 HE
  generalize (((w2.setCell ⟨E, 0, none⟩ (.string s)).setCell ⟨E, 1, none⟩ (.string ⟨#[]⟩)).setCell ⟨E, 2, none⟩ (.slice none 0 0)).setCell ⟨E, 3, none⟩ (.slice none 0 0) = w3 at HT3 ⊢
  refine (refText_calls P w3 g (aftT l) (badT l false) HT3.out.rd HT3.out.by_).mono ?_
  rintro e w4 ⟨rfl, hI, hb, hk⟩
  have HT4 := Aside0.mk (HT3.out.read hI hb hk (aftT_bytes HT3.out.by_))
  clear HT3 hI hb hk
  obtain ⟨t, ht⟩ : ∃ t, t = textOf (aftT l) := ⟨_, rfl⟩
  rw [← ht]
  have HTT := Aside0.mk ht
  clear ht
  have he0 := blk_cell HT4.out.hE 1
  have hfz := blk_frozen HT4.out.hE 1
  go_upto_region 3 with (fail)
  have HT5 := Aside0.mk (HT4.out.set1 t)
  clear HT4 he0 hfz
  generalize w4.setCell ⟨E, 1, none⟩ (.string t) = w5 at HT5 ⊢
  go_wp2_with fail
  refine (refNum_calls P w5 g (aftT (aftT l)) (badT (aftT l) (badT l false)) HT5.out.rd HT5.out.by_).mono ?_
  rintro e w6 ⟨rfl, hI, hb, hk⟩
  have HT6 := Aside0.mk (HT5.out.read hI hb hk (aft_bytes HT5.out.by_))
  clear HT5 hI hb hk
  obtain ⟨n, hn⟩ : ∃ n, n = numOf (aftT (aftT l)) := ⟨_, rfl⟩
  rw [← hn]
  have HN := Aside0.mk hn
  clear hn
  obtain ⟨l3, hl3⟩ : ∃ l3, l3 = aft (aftT (aftT l)) := ⟨_, rfl⟩
  rw [← hl3] at HT6
  have HL3 := Aside0.mk hl3
  clear hl3
  obtain ⟨b3, hb3⟩ : ∃ b3, b3 = badOf (aftT (aftT l)) (badT (aftT l) (badT l false)) := ⟨_, rfl⟩
  rw [← hb3] at HT6
  have HB3 := Aside0.mk hb3
  clear hb3
  go_upto_block 0 with fail
  go_cut [6] from 18 to 40 (fun v6 wc => ∃ (j : Nat) (v2 : Value), Aside0 (Tr w0 wc P g E (takeTs j l3 b3).2.1 (takeTs j l3 b3).2.2 s t v2 (takeTs j l3 b3).1 (.slice none 0 0) []) ∧ Aside0 ((∀ i, i < j → (takeTs i l3 b3).2.2 = false ∧ (i : Int) < n) ∧ j ≤ 7 ∧ ¬ ((j : Int) < n ∧ j ≤ 6 ∧ (takeTs j l3 b3).2.2 = false)))
  case first =>
    go_wp2_with fail
    go_loopg [6] 7 (fun k v6 wi => ∃ (i : Nat) (v2 : Value), v6 = .int .i64 (i : Int) ∧ Aside0 (i + k = 7) ∧ Aside0 (Tr w0 wi P g E (takeTs i l3 b3).2.1 (takeTs i l3 b3).2.2 s t v2 (takeTs i l3 b3).1 (.slice none 0 0) []) ∧ Aside0 (∀ j, j < i → (takeTs j l3 b3).2.2 = false ∧ (j : Int) < n))
    case atStart => exact ⟨0, _, rfl, ⟨by omega⟩, ⟨HT6.out⟩, ⟨fun j hj => by omega⟩⟩
    case round =>
      clear HT6
      obtain ⟨i, v2, rfl, HE, HT, HA⟩ := hrel
      have hi7 : i ≤ 7 := by have := HE.out; omega
      obtain ⟨⟨tags, li, bi⟩, hq⟩ : ∃ q, takeTs i l3 b3 = q := ⟨_, rfl⟩
      rw [hq] at HT
      simp only at HT
      have HQI := Aside0.mk hq
      clear hq
      have hbad := HT.out.rd.isBad
      by_cases c1 : (i : Int) < n
      · have d1 : decide ((i : Int) < n) = true := decide_eq_true c1
        by_cases c2 : i ≤ 6
        · have d2 : decide ((i : Int) ≤ 6) = true := decide_eq_true (by omega)
          cases bi with
          | false =>
            have HC1 := Aside0.mk c1
            clear c1
            have htl : tags.length ≤ 1000 := by have := takeTs_len l3 b3 i; rw [HQI.out] at this; simp only at this; omega
            go_upto_region 7 with fail
            refine start_ (n := 8) (S := fun w' => w'.cell? ⟨E, 2, none⟩ = some v2) (ds := [7]) #[false, false, false, false, false, false, false, false] (by kernel_rfl) rfl rfl ((blk_cell HT.out.drew.hE 2).trans rfl) (fun hHeld => ?_); refine with_tabW D17.tab7 D17.bits7 (fun HT_ HW_ => ?_)
            have HT1 := Aside0.mk HT.out.drew
            clear HT hbad
            generalize World.drew _ = w1_ at HT1 hHeld ⊢
            refine pure_ (i := 0) (N := some 34) (v := ?_) (a' := ?_) #[true, false, false, false, false, false, false, false] rfl rfl (any_of HT_.out (by kernel_rfl)) (fun _ _ _ h => h) (Or.inl ⟨by rfl, ?_⟩) ?_ ?_
            rotate_left
            · intro w'
              go_simp
              with_reducible rfl
            rotate_left
            · simp only [Act.put, List.setIfInBounds_toArray, List.set_cons_zero, List.set_cons_succ, i64_w, i32_w]
              rfl
            refine take_ (i := 1) (N := some 35) (v := ?_) (a' := ?_) #[true, true, false, false, false, false, false, false] rfl rfl (take_ofW HT_.out HW_.out (by kernel_rfl)) (fun _ _ _ h => h) (Or.inl ⟨by rfl, ?_⟩) hHeld ?_ ?_
            rotate_left
            · rintro w' s0
              go_simp
              with_reducible rfl
            rotate_left
            · simp only [Act.put, List.setIfInBounds_toArray, List.set_cons_zero, List.set_cons_succ, i64_w, i32_w]
              rfl
            refine pure_ (i := 2) (N := some 36) (v := ?_) (a' := ?_) #[true, true, true, false, false, false, false, false] rfl rfl (any_of HT_.out (by kernel_rfl)) (fun _ _ _ h => h) (Or.inl ⟨by rfl, ?_⟩) ?_ ?_
            rotate_left
            · intro w'
              go_simp
              with_reducible rfl
            rotate_left
            · simp only [Act.put, List.setIfInBounds_toArray, List.set_cons_zero, List.set_cons_succ, i64_w, i32_w]
              rfl
            refine one_ (i := 3) (N := some 37) #[true, true, true, true, false, false, false, false] rfl rfl (one_of HT_.out (by kernel_rfl)) (by decide) (fun K hK => ?_)
            refine goes_ Try.func34 (by kernel_rfl) rfl #[.pointer (some ⟨g, 0, none⟩)] (by rfl) rfl rfl (by (try simp only [List.map_toArray, List.map_cons, List.map_nil]); first | done | rfl) ?_
            with_reducible refine (refText_calls P w1_ g li false HT1.out.rd HT1.out.by_).mono ?_
            rintro e w2_ ⟨rfl, hI, hb, hk⟩
            refine ⟨_, rfl, ?_⟩
            have HT2 := Aside0.mk (HT1.out.read hI hb hk (aftT_bytes HT1.out.by_))
            clear HT1 hI hb hk
            refine hK.out _ _ ((blk_cell HT2.out.hE 2).trans rfl) (fun hHeld => ?_)
            clear hK K
            refine norm_ (a' := ?_) ?_ ?_
            rotate_left
            · show Act.put _ (some 37) _ = _
              simp only [Act.put, List.setIfInBounds_toArray, List.set_cons_zero, List.set_cons_succ, i64_w, i32_w]
              rfl
            obtain ⟨x1, hx⟩ : ∃ x1, x1 = textOf li := ⟨_, rfl⟩
            rw [← hx]
            have HX1 := Aside0.mk hx
            clear hx
            refine one_ (i := 4) (N := some 38) #[true, true, true, true, true, false, false, false] rfl rfl (one_of HT_.out (by kernel_rfl)) (by decide) (fun K hK => ?_)
            refine event_step (by rfl) (v := .slice (some ⟨w2_.heap.size, 0, none⟩) 1 1) (w1 := w2_.alloc (.cells #[.string x1] 9)) ?_ ?_
            · first | (go_simp; done) | (go_simp; rfl)
            refine hK.out _ _ ((blk_cell (HT2.out.alloc _).hE 2).trans rfl) (fun hHeld => ?_)
            clear hK K
            refine norm_ (a' := ?_) ?_ ?_
            rotate_left
            · show Act.put _ (some 38) _ = _
              simp only [Act.put, List.setIfInBounds_toArray, List.set_cons_zero, List.set_cons_succ, i64_w, i32_w]
              rfl
            refine one_ (i := 5) (N := some 39) #[true, true, true, true, true, true, false, false] rfl rfl (one_of HT_.out (by kernel_rfl)) (by decide) (fun K hK => ?_)
            refine Kd.R_append_step Kd.string (w0 := w2_) w0.heap.size (by rfl) (.tmp 35) (.tmp 38) 23 9 (.string ⟨#[]⟩) 16 rfl Try.underlying23 info_str rfl (by decide) (by omega) v2 tags x1 [.string x1] (fun _ => True) (fun _ => False) rfl rfl rfl (fun _ hk => hk.elim) (fun _ _ => trivial) HT2.out.r2 (Below.refl _ _) HT2.out.keep.1 (by omega) ?_
            intro v w3_ ho hb hg hat
            have HO := Aside0.mk ho
            have HBl := Aside0.mk hb
            have HG := Aside0.mk hg
            clear ho hb hg hat
            refine hK.out _ _ ((blk_cell (blk_grown HT2.out.hE HG.out (Kd.R_ne HT2.out.r2 HT2.out.hE (by decide))) 2).trans rfl) (fun hHeld => ?_)
            clear hK K
            refine norm_ (a' := ?_) ?_ ?_
            rotate_left
            · show Act.put _ (some 39) _ = _
              simp only [Act.put, List.setIfInBounds_toArray, List.set_cons_zero, List.set_cons_succ, i64_w, i32_w]
              rfl
            refine pure_ (i := 6) (N := some 40) (v := ?_) (a' := ?_) #[true, true, true, true, true, true, true, false] rfl rfl (any_of HT_.out (by kernel_rfl)) (fun _ _ _ h => h) (Or.inl ⟨by rfl, ?_⟩) ?_ ?_
            rotate_left
            · intro w'
              go_simp
              with_reducible rfl
            rotate_left
            · simp only [Act.put, List.setIfInBounds_toArray, List.set_cons_zero, List.set_cons_succ, i64_w, i32_w]
              rfl
            refine last_ (i := 7) (N := none) #[true, true, true, true, true, true, true, true] rfl rfl (one_of HT_.out (by kernel_rfl)) (by decide) (fun K hK => ?_)
            obtain ⟨Av, cv, ev_⟩ := Kd.R_slice HO.out
            subst ev_
            have hfz := blk_frozen (blk_grown HT2.out.hE HG.out (Kd.R_ne HT2.out.r2 HT2.out.hE (by decide))) 2
            have hce := (blk_cell (blk_grown HT2.out.hE HG.out (Kd.R_ne HT2.out.r2 HT2.out.hE (by decide))) 2)
            refine skip_ (w1 := w3_.setCell ⟨E, 2, none⟩ (.slice Av (tags ++ [x1]).length cv)) (by rfl) rfl ?_ ?_
            · first | (go_simp; done) | (go_simp; rfl)
            refine hK.out _ _ ?_
            clear hK K
            refine done_ (by kernel_rfl) ?_
            clear HT_ HW_ hHeld
            have HT3 := Aside0.mk (HT2.out.push2 HO.out HBl.out HG.out)
            have HQ3 := Aside0.mk (takeTs_succ HQI.out)
            clear HT2 hfz hce HO HBl HG
            generalize w3_.setCell ⟨E, 2, none⟩ (.slice Av (tags ++ [x1]).length cv) = w4 at HT3 ⊢
            go_wp2_with fail
            go_roundg (7 - (i + 1))
            case measure => have := HE.out; omega
            case rel => exact ⟨i + 1, .slice Av (tags ++ [x1]).length cv, by go_num, ⟨by omega⟩, by rw [HQ3.out, ← HX1.out]; exact HT3, ⟨fun j hj => by
              by_cases e : j = i
              · rw [e, HQI.out]; exact ⟨rfl, HC1.out⟩
              · exact HA.out j (by omega)⟩⟩
          | true =>
            have HC1 := Aside0.mk c1
            clear c1
            go_wp2_with fail
            go_meet
            case rel => exact ⟨i, v2, by rw [HQI.out]; exact HT, ⟨HA.out, hi7, by rw [HQI.out]; simp⟩⟩
        · have d2 : decide ((i : Int) ≤ 6) = false := decide_eq_false (by omega)
          have HC1 := Aside0.mk c1
          clear c1
          go_wp2_with fail
          go_meet
          case rel => exact ⟨i, v2, by rw [HQI.out]; exact HT, ⟨HA.out, hi7, fun h => c2 h.2.1⟩⟩
      · have d1 : decide ((i : Int) < n) = false := decide_eq_false c1
        have HC1 := Aside0.mk c1
        clear c1
        go_wp2_with fail
        go_meet
        case rel => exact ⟨i, v2, by rw [HQI.out]; exact HT, ⟨HA.out, hi7, fun h => absurd h.1 (by have := HC1.out; omega)⟩⟩
  case rest =>
    clear HT6
    obtain ⟨j, v2, HT, HA⟩ := hcut
    obtain ⟨⟨tags, l4, b4⟩, hq⟩ : ∃ q, takeTs j l3 b3 = q := ⟨_, rfl⟩
    have HZ3 := Aside0.mk (show isBytes l3 ∧ l3.length ≤ 9223372036854775807 from by rw [HL3.out]; exact ⟨aft_bytes (aftT_bytes (aftT_bytes HBY.out)), Nat.le_trans (aft_len _ (aftT_bytes (aftT_bytes HBY.out))) (Nat.le_trans (aftT_len _ (aftT_bytes HBY.out)) (Nat.le_trans (aftT_len _ HBY.out) HSL.out))⟩)
    have hqs := takeTs_left l3 b3 HZ3.out.1 j
    rw [hq] at hqs
    have htl := takeTs_len l3 b3 j
    rw [hq] at htl HT
    simp only at hqs htl HT
    have HZT : Aside0 (∀ x ∈ tags, x.size ≤ 9223372036854775807) := ⟨fun x hx => Nat.le_trans (hqs.2.2 x hx) HZ3.out.2⟩
    have HZ4 : Aside0 (l4.length ≤ 9223372036854775807) := ⟨Nat.le_trans hqs.2.1 HZ3.out.2⟩
    have HTL := Aside0.mk htl
    have HQ1 := Aside0.mk hq
    clear hqs htl hq
    by_cases cn : n < 0
    · have d1 : decide (n < 0) = true := decide_eq_true cn
      have HNO : Aside0 (noE l) := ⟨_, _, takeE_n (.inl (by rw [← HN.out]; exact cn))⟩
      clear cn
      have HQW := Aside0.mk ((HT.out.keep.blk HQ.out (by have := HGW.out; have := HQN.out.2; omega) (by simp)))
      have HO := Aside0.mk (OutR.of_Tr HT.out HB0.out HGW.out)
      have HBYX := Aside0.mk HT.out.by_
      have hq0 := blk_cell HQW.out 0
      have hq1 := blk_cell HQW.out 1
      have hq2 := blk_cell HQW.out 2
      have hq3 := blk_cell HQW.out 3
      have hf0 := blk_frozen HQW.out 0
      have hf1 := blk_frozen HQW.out 1
      have hf2 := blk_frozen HQW.out 2
      have hf3 := blk_frozen HQW.out 3
      clear HT
      go_wp2
      have HQ2 := blk_put (cs' := #[.string ⟨#[]⟩, .string ⟨#[]⟩, .slice none 0 0, .slice none 0 0]) (blk_put (cs' := #[.string ⟨#[]⟩, .string ⟨#[]⟩, .slice none 0 0, .slice none 0 0]) (blk_put (cs' := #[.string ⟨#[]⟩, .string ⟨#[]⟩, .slice none 0 0, .slice none 0 0]) (blk_put (cs' := #[.string ⟨#[]⟩, .string ⟨#[]⟩, .slice none 0 0, .slice none 0 0]) HQW.out 0 (.string ⟨#[]⟩) rfl) 1 (.string ⟨#[]⟩) rfl) 2 (.slice none 0 0) rfl) 3 (.slice none 0 0) rfl
      refine bodyPost_ret (results_ct rfl _ _ Q 26 _ (0, 0) _ rfl HQ2 Try.underlying26 rfl (by kernel_rfl)) rfl ?_
      obtain ⟨lx, bx, hno⟩ := HNO.out
      have hx := HX.out
      rw [hno] at hx
      simp only [Prod.mk.injEq] at hx
      obtain ⟨rfl, rfl, rfl, rfl⟩ := hx
      have ho := (((HO.out.set HGW.out HP.out HQN.out.2 0 (.string ⟨#[]⟩)).set HGW.out HP.out HQN.out.2 1 (.string ⟨#[]⟩)).set HGW.out HP.out HQN.out.2 2 (.slice none 0 0)).set HGW.out HP.out HQN.out.2 3 (.slice none 0 0)
      unfold RefPost
      exact ⟨.slice none 0 0, .slice none 0 0, _, _, rfl, Kd.R_nil _ _ _ _ _, Kd.R_nil _ _ _ _ _, ho.1, HBYX.out, fun h => absurd h (by decide), ho.2.1, ho.2.2⟩
    · have d1 : decide (n < 0) = false := decide_eq_false cn
      by_cases c6 : 6 < n
      · have d2 : decide (6 < n) = true := decide_eq_true c6
        have HNO : Aside0 (noE l) := ⟨_, _, takeE_n (.inr (by rw [← HN.out]; exact c6))⟩
        clear c6 cn
        have HQW := Aside0.mk ((HT.out.keep.blk HQ.out (by have := HGW.out; have := HQN.out.2; omega) (by simp)))
        have HO := Aside0.mk (OutR.of_Tr HT.out HB0.out HGW.out)
        have HBYX := Aside0.mk HT.out.by_
        have hq0 := blk_cell HQW.out 0
        have hq1 := blk_cell HQW.out 1
        have hq2 := blk_cell HQW.out 2
        have hq3 := blk_cell HQW.out 3
        have hf0 := blk_frozen HQW.out 0
        have hf1 := blk_frozen HQW.out 1
        have hf2 := blk_frozen HQW.out 2
        have hf3 := blk_frozen HQW.out 3
        clear HT
        go_wp2
        have HQ2 := blk_put (cs' := #[.string ⟨#[]⟩, .string ⟨#[]⟩, .slice none 0 0, .slice none 0 0]) (blk_put (cs' := #[.string ⟨#[]⟩, .string ⟨#[]⟩, .slice none 0 0, .slice none 0 0]) (blk_put (cs' := #[.string ⟨#[]⟩, .string ⟨#[]⟩, .slice none 0 0, .slice none 0 0]) (blk_put (cs' := #[.string ⟨#[]⟩, .string ⟨#[]⟩, .slice none 0 0, .slice none 0 0]) HQW.out 0 (.string ⟨#[]⟩) rfl) 1 (.string ⟨#[]⟩) rfl) 2 (.slice none 0 0) rfl) 3 (.slice none 0 0) rfl
        refine bodyPost_ret (results_ct rfl _ _ Q 26 _ (0, 0) _ rfl HQ2 Try.underlying26 rfl (by kernel_rfl)) rfl ?_
        obtain ⟨lx, bx, hno⟩ := HNO.out
        have hx := HX.out
        rw [hno] at hx
        simp only [Prod.mk.injEq] at hx
        obtain ⟨rfl, rfl, rfl, rfl⟩ := hx
        have ho := (((HO.out.set HGW.out HP.out HQN.out.2 0 (.string ⟨#[]⟩)).set HGW.out HP.out HQN.out.2 1 (.string ⟨#[]⟩)).set HGW.out HP.out HQN.out.2 2 (.slice none 0 0)).set HGW.out HP.out HQN.out.2 3 (.slice none 0 0)
        unfold RefPost
        exact ⟨.slice none 0 0, .slice none 0 0, _, _, rfl, Kd.R_nil _ _ _ _ _, Kd.R_nil _ _ _ _ _, ho.1, HBYX.out, fun h => absurd h (by decide), ho.2.1, ho.2.2⟩
      · have d2 : decide (6 < n) = false := decide_eq_false c6
        have HN1 : Aside0 (¬ (numOf (aftT (aftT l)) < 0 ∨ 6 < numOf (aftT (aftT l)))) := ⟨by rw [← HN.out]; omega⟩
        clear c6 cn
        go_wp2_with fail
        refine (refNum_calls P wc g l4 b4 HT.out.rd HT.out.by_).mono ?_
        rintro e w6 ⟨rfl, hI, hb, hk⟩
        have HT6 := Aside0.mk (HT.out.read hI hb hk (aft_bytes HT.out.by_))
        have HY4 := Aside0.mk HT.out.by_
        clear HT hI hb hk
        obtain ⟨m, hm⟩ : ∃ m, m = numOf l4 := ⟨_, rfl⟩
        rw [← hm]
        have HM := Aside0.mk hm
        clear hm
        go_upto_block 2 with fail
        obtain ⟨l5, hl5⟩ : ∃ l5, l5 = aft l4 := ⟨_, rfl⟩
        rw [← hl5] at HT6
        have HL5 := Aside0.mk hl5
        clear hl5
        obtain ⟨b5, hb5⟩ : ∃ b5, b5 = badOf l4 b4 := ⟨_, rfl⟩
        rw [← hb5] at HT6
        have HB5 := Aside0.mk hb5
        clear hb5
        go_cut [8, 9] from 50 to 77 (fun v8 v9 wc => ∃ (j : Nat) (v3 : Value), Aside0 (Tr w0 wc P g E (takeFs j l5 b5).2.1 (takeFs j l5 b5).2.2 s t v2 tags v3 (takeFs j l5 b5).1) ∧ Aside0 ((∀ i, i < j → (takeFs i l5 b5).2.2 = false ∧ (i : Int) < m) ∧ j ≤ 5 ∧ ¬ ((j : Int) < m ∧ j ≤ 4 ∧ (takeFs j l5 b5).2.2 = false)))
        case first =>
          go_wp2_with fail
          go_loopg [8, 9] 5 (fun k v8 v9 wi => ∃ (i : Nat) (v3 : Value), v8 = .int .i64 (i : Int) ∧ Aside0 (i + k = 5) ∧ Aside0 (Tr w0 wi P g E (takeFs i l5 b5).2.1 (takeFs i l5 b5).2.2 s t v2 tags v3 (takeFs i l5 b5).1) ∧ Aside0 (∀ j, j < i → (takeFs j l5 b5).2.2 = false ∧ (j : Int) < m))
          case atStart => exact ⟨0, _, rfl, ⟨by omega⟩, ⟨HT6.out⟩, ⟨fun j hj => by omega⟩⟩
          case round =>
            clear HT6
            obtain ⟨i, v3, rfl, HE, HT, HA2⟩ := hrel
            have hi5 : i ≤ 5 := by have := HE.out; omega
            obtain ⟨⟨fl, li, bi⟩, hq⟩ : ∃ q, takeFs i l5 b5 = q := ⟨_, rfl⟩
            rw [hq] at HT
            simp only at HT
            have HQI := Aside0.mk hq
            clear hq
            have hbad := HT.out.rd.isBad
            by_cases c1 : (i : Int) < m
            · have d3 : decide ((i : Int) < m) = true := decide_eq_true c1
              by_cases c2 : i ≤ 4
              · have d4 : decide ((i : Int) ≤ 4) = true := decide_eq_true (by omega)
                cases bi with
                | false =>
                  have HC1 := Aside0.mk c1
                  clear c1
                  have hfl : fl.length ≤ 1000 := by have := takeFs_len l5 b5 i; rw [HQI.out] at this; simp only at this; omega
                  go_wp2_with fail
                  refine (refText_calls P _ g li false HT.out.rd HT.out.by_).mono ?_
                  rintro e w1 ⟨rfl, hI, hb, hk⟩
                  have HT1 := Aside0.mk (HT.out.read hI hb hk (aftT_bytes HT.out.by_))
                  clear HT hI hb hk hbad
                  obtain ⟨x1, hx⟩ : ∃ x1, x1 = textOf li := ⟨_, rfl⟩
                  rw [← hx]
                  have HX1 := Aside0.mk hx
                  clear hx
                  go_wp2_with (first | ((with_reducible refine gate_dst (N := 9) rfl ?_); refine box_event ?hg (N := 9) ?hd (cs := #[.string (⟨#[]⟩ : ByteArray), .int .i64 0]) (t := 35) ?hr ?_; (case hd => rfl); (case hg => rfl); (case hr => first | (go_simp; done) | (go_simp; rfl)); intro B hg w2 hbox hb; have HNB := Aside0.mk (show some B ≠ v3.ownBlock by intro e_; have := Kd.R_lt HT1.out.r3 B e_.symm; omega); have HT2 := Aside0.mk (HT1.out.up hb); have HBX := Aside0.mk hbox; have HGE := Aside0.mk (show w0.heap.size ≤ B by rw [hg]; exact HT1.out.keep.1); clear HT1 hg hbox hb; have hb0 := blk_cell HBX.out 0; have hb1 := blk_cell HBX.out 1; have hfz0 := blk_frozen HBX.out 0; have hfz1 := blk_frozen HBX.out 1))
                  have hneE := blk_ne HBX.out HT2.out.hE (by decide)
                  have HN2 := Aside0.mk (Kd.R_ne HT2.out.r2 HBX.out (by decide))
                  have HT3 := Aside0.mk ((HT2.out.side HGE.out hneE HN2.out HNB.out 0 (.string x1)).side HGE.out hneE HN2.out HNB.out 1 (.int .i64 0))
                  have HB3_ := Aside0.mk (blk_put (cs' := #[.string x1, .int .i64 0]) (blk_put (cs' := #[.string x1, .int .i64 0]) HBX.out 0 (.string x1) rfl) 1 (.int .i64 0) rfl)
                  clear HT2 HBX hb0 hb1 hfz0 hfz1
                  generalize (World.setCell _ ⟨B, 0, none⟩ (.string x1)).setCell ⟨B, 1, none⟩ (.int .i64 0) = w3 at HT3 HB3_ ⊢
                  refine (refNum_calls P w3 g (aftT li) (badT li false) HT3.out.rd HT3.out.by_).mono ?_
                  rintro e w4 ⟨rfl, hI, hb, hk⟩
                  have HB4 := Aside0.mk (hk.blk HB3_.out (by have := HT3.out.gN; have := HGE.out; omega) (by simp))
                  have HT4 := Aside0.mk (HT3.out.read hI hb hk (aft_bytes HT3.out.by_))
                  clear HT3 HB3_ hI hb hk
                  obtain ⟨n1, hn⟩ : ∃ n1, n1 = numOf (aftT li) := ⟨_, rfl⟩
                  rw [← hn]
                  have HNU := Aside0.mk hn
                  clear hn
                  have HT5 := Aside0.mk (HT4.out.side HGE.out hneE HN2.out HNB.out 1 (.int .i64 n1))
                  have HB5_ := Aside0.mk (blk_put (cs' := #[.string x1, .int .i64 n1]) HB4.out 1 (.int .i64 n1) rfl)
                  have hb0 := blk_cell HB4.out 0
                  have hb1 := blk_cell HB4.out 1
                  have hfz1 := blk_frozen HB4.out 1
                  go_upto_region 16 with (fail)
                  clear hb0 hb1 hfz1 HT4 HB4
                  generalize w4.setCell ⟨B, 1, none⟩ (.int .i64 n1) = w5 at HT5 HB5_ ⊢
                  have he3 := blk_cell HT5.out.hE 3
                  have hc0 := blk_cell HB5_.out 0
                  have hc1 := blk_cell HB5_.out 1
                  obtain ⟨A3, c3, e3⟩ := Kd.R_slice HT5.out.r3
                  subst e3
                  go_wp2_with (first | ((with_reducible refine gate_builtin (b := .append) (xs := #[.tmp 73, .tmp 75]) rfl ?_); at_builtin; refine Kd.R_append k35 (w0 := _) w0.heap.size rfl (.tmp 73) (.tmp 75) 24 35 (.agg #[.string ⟨#[]⟩, .int .i64 0]) 24 rfl Try.underlying24 info_field rfl (by decide) (by omega) (.slice A3 fl.length c3) fl ⟨x1, n1⟩ [.string x1, .int .i64 n1] (fun _ => True) (fun _ => False) rfl rfl (k35_mkM _ _ _ _) (fun _ hk => hk.elim) (fun _ _ => trivial) HT5.out.r3 (Below.refl _ _) HT5.out.keep.1 (by omega) ?_; intro v w6 ho hb hg hat; have HO := Aside0.mk ho; have HBl := Aside0.mk hb; have HG := Aside0.mk hg; clear ho hb hg hat; obtain ⟨Av, cv, ev_⟩ := Kd.R_slice HO.out; subst ev_; have hfz := blk_frozen (blk_grown HT5.out.hE HG.out (Kd.R_ne HT5.out.r3 HT5.out.hE (by decide))) 3; have hce := (blk_cell (blk_grown HT5.out.hE HG.out (Kd.R_ne HT5.out.r3 HT5.out.hE (by decide))) 3)))
                  have HT7 := Aside0.mk (HT5.out.push3 HO.out HBl.out HG.out)
                  have HQ3 := Aside0.mk (takeFs_succ HQI.out)
                  go_roundg (5 - (i + 1))
                  case measure => have := HE.out; omega
                  case rel => exact ⟨i + 1, .slice Av (fl.length + 1) cv, by go_num, ⟨by omega⟩, by
                    have hq := HT7.out
                    rw [HQ3.out, ← HX1.out, ← HNU.out]
                    rw [List.length_append, List.length_singleton] at hq
                    exact ⟨hq⟩, ⟨fun j hj => by
                    by_cases e : j = i
                    · rw [e, HQI.out]; exact ⟨rfl, HC1.out⟩
                    · exact HA2.out j (by omega)⟩⟩
                | true =>
                  have HC1 := Aside0.mk c1
                  clear c1
                  go_wp2_with fail
                  go_meet
                  case rel => exact ⟨i, v3, by rw [HQI.out]; exact HT, ⟨HA2.out, hi5, by rw [HQI.out]; simp⟩⟩
              · have d4 : decide ((i : Int) ≤ 4) = false := decide_eq_false (by omega)
                have HC1 := Aside0.mk c1
                clear c1
                go_wp2_with fail
                go_meet
                case rel => exact ⟨i, v3, by rw [HQI.out]; exact HT, ⟨HA2.out, hi5, fun h => c2 h.2.1⟩⟩
            · have d3 : decide ((i : Int) < m) = false := decide_eq_false c1
              have HC1 := Aside0.mk c1
              clear c1
              go_wp2_with fail
              go_meet
              case rel => exact ⟨i, v3, by rw [HQI.out]; exact HT, ⟨HA2.out, hi5, fun h => absurd h.1 (by have := HC1.out; omega)⟩⟩
        case rest =>
          clear HT6
          obtain ⟨j2, v3, HT, HA2⟩ := hcut
          obtain ⟨⟨fl, l6, b6⟩, hq⟩ : ∃ q, takeFs j2 l5 b5 = q := ⟨_, rfl⟩
          have HY5 := Aside0.mk (show isBytes l5 ∧ l5.length ≤ 9223372036854775807 from by rw [HL5.out]; exact ⟨aft_bytes HY4.out, Nat.le_trans (aft_len _ HY4.out) HZ4.out⟩)
          have hqs := takeFs_left l5 b5 HY5.out.1 j2
          have hfl := takeFs_len l5 b5 j2
          have HLAW := Aside0.mk (refTake_no (j := j) (j2 := j2) (tags := tags) (l4 := l4) (b4 := b4) (fl := fl) (l6 := l6) (b6 := b6) HN1.out (by rw [← HN.out, ← HL3.out, ← HB3.out]; exact HA.out) (by rw [← HL3.out, ← HB3.out]; exact HQ1.out) (by rw [← HL5.out, ← HB5.out, ← HM.out]; exact HA2.out) (by rw [← HL5.out, ← HB5.out]; exact hq))
          have hj2 := HA2.out.2.1
          have hj1 := HA.out.2.1
          rw [hq] at hqs hfl HT
          simp only at hqs hfl HT
          have HZF : Aside0 (∀ x ∈ fl, x.f0.size ≤ 9223372036854775807) := ⟨fun x hx => Nat.le_trans (hqs.2.2 x hx) HY5.out.2⟩
          have HFL := Aside0.mk (show fl.length ≤ 5 by omega)
          have HTL2 := Aside0.mk (show tags.length ≤ 7 by have := HTL.out; omega)
          rw [← HM.out, ← HS.out, ← HTT.out] at HLAW
          clear hqs hfl hq hj2 hj1 HA HA2
          by_cases cm : m < 0
          · have d3 : decide (m < 0) = true := decide_eq_true cm
            have HNO := Aside0.mk (HLAW.out.1 (.inl cm))
            clear cm
            have HQW := Aside0.mk ((HT.out.keep.blk HQ.out (by have := HGW.out; have := HQN.out.2; omega) (by simp)))
            have HO := Aside0.mk (OutR.of_Tr HT.out HB0.out HGW.out)
            have HBYX := Aside0.mk HT.out.by_
            have hq0 := blk_cell HQW.out 0
            have hq1 := blk_cell HQW.out 1
            have hq2 := blk_cell HQW.out 2
            have hq3 := blk_cell HQW.out 3
            have hf0 := blk_frozen HQW.out 0
            have hf1 := blk_frozen HQW.out 1
            have hf2 := blk_frozen HQW.out 2
            have hf3 := blk_frozen HQW.out 3
            clear HT
            go_wp2
            have HQ2 := blk_put (cs' := #[.string ⟨#[]⟩, .string ⟨#[]⟩, .slice none 0 0, .slice none 0 0]) (blk_put (cs' := #[.string ⟨#[]⟩, .string ⟨#[]⟩, .slice none 0 0, .slice none 0 0]) (blk_put (cs' := #[.string ⟨#[]⟩, .string ⟨#[]⟩, .slice none 0 0, .slice none 0 0]) (blk_put (cs' := #[.string ⟨#[]⟩, .string ⟨#[]⟩, .slice none 0 0, .slice none 0 0]) HQW.out 0 (.string ⟨#[]⟩) rfl) 1 (.string ⟨#[]⟩) rfl) 2 (.slice none 0 0) rfl) 3 (.slice none 0 0) rfl
            refine bodyPost_ret (results_ct rfl _ _ Q 26 _ (0, 0) _ rfl HQ2 Try.underlying26 rfl (by kernel_rfl)) rfl ?_
            obtain ⟨lx, bx, hno⟩ := HNO.out
            have hx := HX.out
            rw [hno] at hx
            simp only [Prod.mk.injEq] at hx
            obtain ⟨rfl, rfl, rfl, rfl⟩ := hx
            have ho := (((HO.out.set HGW.out HP.out HQN.out.2 0 (.string ⟨#[]⟩)).set HGW.out HP.out HQN.out.2 1 (.string ⟨#[]⟩)).set HGW.out HP.out HQN.out.2 2 (.slice none 0 0)).set HGW.out HP.out HQN.out.2 3 (.slice none 0 0)
            unfold RefPost
            exact ⟨.slice none 0 0, .slice none 0 0, _, _, rfl, Kd.R_nil _ _ _ _ _, Kd.R_nil _ _ _ _ _, ho.1, HBYX.out, fun h => absurd h (by decide), ho.2.1, ho.2.2⟩
          · have d3 : decide (m < 0) = false := decide_eq_false cm
            have HCM := Aside0.mk cm
            clear cm
            have hbad := HT.out.rd.isBad
            cases b6 with
            | true =>
              have HNO := Aside0.mk (HLAW.out.1 (.inr (.inl rfl)))
              have HQW := Aside0.mk ((HT.out.keep.blk HQ.out (by have := HGW.out; have := HQN.out.2; omega) (by simp)))
              have HO := Aside0.mk (OutR.of_Tr HT.out HB0.out HGW.out)
              have HBYX := Aside0.mk HT.out.by_
              have hq0 := blk_cell HQW.out 0
              have hq1 := blk_cell HQW.out 1
              have hq2 := blk_cell HQW.out 2
              have hq3 := blk_cell HQW.out 3
              have hf0 := blk_frozen HQW.out 0
              have hf1 := blk_frozen HQW.out 1
              have hf2 := blk_frozen HQW.out 2
              have hf3 := blk_frozen HQW.out 3
              clear HT
              go_wp2
              have HQ2 := blk_put (cs' := #[.string ⟨#[]⟩, .string ⟨#[]⟩, .slice none 0 0, .slice none 0 0]) (blk_put (cs' := #[.string ⟨#[]⟩, .string ⟨#[]⟩, .slice none 0 0, .slice none 0 0]) (blk_put (cs' := #[.string ⟨#[]⟩, .string ⟨#[]⟩, .slice none 0 0, .slice none 0 0]) (blk_put (cs' := #[.string ⟨#[]⟩, .string ⟨#[]⟩, .slice none 0 0, .slice none 0 0]) HQW.out 0 (.string ⟨#[]⟩) rfl) 1 (.string ⟨#[]⟩) rfl) 2 (.slice none 0 0) rfl) 3 (.slice none 0 0) rfl
              refine bodyPost_ret (results_ct rfl _ _ Q 26 _ (0, 0) _ rfl HQ2 Try.underlying26 rfl (by kernel_rfl)) rfl ?_
              obtain ⟨lx, bx, hno⟩ := HNO.out
              have hx := HX.out
              rw [hno] at hx
              simp only [Prod.mk.injEq] at hx
              obtain ⟨rfl, rfl, rfl, rfl⟩ := hx
              have ho := (((HO.out.set HGW.out HP.out HQN.out.2 0 (.string ⟨#[]⟩)).set HGW.out HP.out HQN.out.2 1 (.string ⟨#[]⟩)).set HGW.out HP.out HQN.out.2 2 (.slice none 0 0)).set HGW.out HP.out HQN.out.2 3 (.slice none 0 0)
              unfold RefPost
              exact ⟨.slice none 0 0, .slice none 0 0, _, _, rfl, Kd.R_nil _ _ _ _ _, Kd.R_nil _ _ _ _ _, ho.1, HBYX.out, fun h => absurd h (by decide), ho.2.1, ho.2.2⟩
            | false =>
              obtain ⟨A2, c2, e2, hc2, hC2⟩ := Kd.R_reads HT.out.r2
              subst e2
              obtain ⟨A3, c3, e3, hc3, hC3⟩ := Kd.R_reads HT.out.r3
              subst e3
              have HC2 := Aside0.mk hC2
              have HC3 := Aside0.mk hC3
              have he0 := blk_cell HT.out.hE 0
              have he1 := blk_cell HT.out.hE 1
              have he2 := blk_cell HT.out.hE 2
              have he3 := blk_cell HT.out.hE 3
              clear hC2 hC3
              have hmay : registrarref04_MayG.f s t tags fl = some (mayE s t tags fl) := if_pos ⟨fitE_iff.2 ⟨by rw [HS.out]; exact HSZ.out, by rw [HTT.out]; exact HSY.out, HZT.out, HZF.out, by have := HFL.out; omega⟩, by have := HTL2.out; omega⟩
              have HMAY := Aside0.mk hmay
              clear hmay
              obtain ⟨mm, hmm⟩ : ∃ mm, mm = mayE s t tags fl := ⟨_, rfl⟩
              rw [← hmm] at HMAY
              have HMM := Aside0.mk hmm
              clear hmm
              go_wp2_with fail
              refine (registrarref04_MayG.calls s t A2 c2 tags A3 c3 fl mm _ HC2.out hc2 HC3.out hc3 HMAY.out).mono ?_
              rintro e w8 ⟨rfl, hb⟩
              have HT8 := Aside0.mk (HT.out.up hb)
              clear HT hb he0 he1 he2 he3 hbad HC2 HC3
              by_cases h0 : mm = 0
              · have hbn : (mm != 0) = false := bne_eq_false_iff_eq.mpr h0
                have HR2 := Aside0.mk (HLAW.out.2 HCM.out (by first | rfl | trivial) (by rw [← HMM.out]; exact h0))
                clear h0 HLAW
                have HQW := Aside0.mk ((HT8.out.keep.blk HQ.out (by have := HGW.out; have := HQN.out.2; omega) (by simp)))
                have HO := Aside0.mk (OutR.of_Tr HT8.out HB0.out HGW.out)
                have HBYX := Aside0.mk HT8.out.by_
                have hq0 := blk_cell HQW.out 0
                have hq1 := blk_cell HQW.out 1
                have hq2 := blk_cell HQW.out 2
                have hq3 := blk_cell HQW.out 3
                have hf0 := blk_frozen HQW.out 0
                have hf1 := blk_frozen HQW.out 1
                have hf2 := blk_frozen HQW.out 2
                have hf3 := blk_frozen HQW.out 3
                have he0 := blk_cell HT8.out.hE 0
                have he1 := blk_cell HT8.out.hE 1
                have he2 := blk_cell HT8.out.hE 2
                have he3 := blk_cell HT8.out.hE 3
                go_wp2
                have HQ2 := blk_put (cs' := #[.string s, .string t, .slice A2 tags.length c2, .slice A3 fl.length c3]) (blk_put (cs' := #[.string s, .string t, .slice A2 tags.length c2, .slice none 0 0]) (blk_put (cs' := #[.string s, .string t, .slice none 0 0, .slice none 0 0]) (blk_put (cs' := #[.string s, .string ⟨#[]⟩, .slice none 0 0, .slice none 0 0]) HQW.out 0 (.string s) rfl) 1 (.string t) rfl) 2 (.slice A2 tags.length c2) rfl) 3 (.slice A3 fl.length c3) rfl
                refine bodyPost_ret (results_ct rfl _ _ Q 26 _ (0, 0) _ rfl HQ2 Try.underlying26 rfl (by kernel_rfl)) rfl ?_
                have hx := HX.out
                rw [HR2.out] at hx
                simp only [Prod.mk.injEq] at hx
                obtain ⟨rfl, rfl, rfl, rfl⟩ := hx
                have ho := (((HO.out.set HGW.out HP.out HQN.out.2 0 (.string s)).set HGW.out HP.out HQN.out.2 1 (.string t)).set HGW.out HP.out HQN.out.2 2 (.slice A2 tags.length c2)).set HGW.out HP.out HQN.out.2 3 (.slice A3 fl.length c3)
                unfold RefPost
                exact ⟨.slice A2 tags.length c2, .slice A3 fl.length c3, _, _, rfl, Kd.R_lower (R_set4 HT8.out.r2 HQW.out (by decide) _ _ _ _) HB0.out.size, Kd.R_lower (R_set4 HT8.out.r3 HQW.out (by decide) _ _ _ _) HB0.out.size, ho.1, HBYX.out, fun _ => ⟨rfl, rfl⟩, ho.2.1, ho.2.2⟩
              · have hbn : (mm != 0) = true := bne_iff_ne.mpr h0
                have HNO := Aside0.mk (HLAW.out.1 (.inr (.inr (by rw [← HMM.out]; exact h0))))
                clear h0 HLAW
                have HQW := Aside0.mk ((HT8.out.keep.blk HQ.out (by have := HGW.out; have := HQN.out.2; omega) (by simp)))
                have HO := Aside0.mk (OutR.of_Tr HT8.out HB0.out HGW.out)
                have HBYX := Aside0.mk HT8.out.by_
                have hq0 := blk_cell HQW.out 0
                have hq1 := blk_cell HQW.out 1
                have hq2 := blk_cell HQW.out 2
                have hq3 := blk_cell HQW.out 3
                have hf0 := blk_frozen HQW.out 0
                have hf1 := blk_frozen HQW.out 1
                have hf2 := blk_frozen HQW.out 2
                have hf3 := blk_frozen HQW.out 3
                clear HT8
                go_wp2
                have HQ2 := blk_put (cs' := #[.string ⟨#[]⟩, .string ⟨#[]⟩, .slice none 0 0, .slice none 0 0]) (blk_put (cs' := #[.string ⟨#[]⟩, .string ⟨#[]⟩, .slice none 0 0, .slice none 0 0]) (blk_put (cs' := #[.string ⟨#[]⟩, .string ⟨#[]⟩, .slice none 0 0, .slice none 0 0]) (blk_put (cs' := #[.string ⟨#[]⟩, .string ⟨#[]⟩, .slice none 0 0, .slice none 0 0]) HQW.out 0 (.string ⟨#[]⟩) rfl) 1 (.string ⟨#[]⟩) rfl) 2 (.slice none 0 0) rfl) 3 (.slice none 0 0) rfl
                refine bodyPost_ret (results_ct rfl _ _ Q 26 _ (0, 0) _ rfl HQ2 Try.underlying26 rfl (by kernel_rfl)) rfl ?_
                obtain ⟨lx, bx, hno⟩ := HNO.out
                have hx := HX.out
                rw [hno] at hx
                simp only [Prod.mk.injEq] at hx
                obtain ⟨rfl, rfl, rfl, rfl⟩ := hx
                have ho := (((HO.out.set HGW.out HP.out HQN.out.2 0 (.string ⟨#[]⟩)).set HGW.out HP.out HQN.out.2 1 (.string ⟨#[]⟩)).set HGW.out HP.out HQN.out.2 2 (.slice none 0 0)).set HGW.out HP.out HQN.out.2 3 (.slice none 0 0)
                unfold RefPost
                exact ⟨.slice none 0 0, .slice none 0 0, _, _, rfl, Kd.R_nil _ _ _ _ _, Kd.R_nil _ _ _ _ _, ho.1, HBYX.out, fun h => absurd h (by decide), ho.2.1, ho.2.2⟩
end Go.Proofs.Ytmnidohgnnpeiaa.Num
namespace Go.Proofs.Ytmnidohgnnpeiaa.Prt
open Go.RowKit Go.Proofs.YtmnidohgnnpeiaaW.PrintWords Go.Proofs.YtmnidohgnnpeiaaW.PrintLast Go.Proofs.YtmnidohgnnpeiaaW.PrintMore Go.Proofs.Ytmnidohgnnpeiaa.Num Go.Proofs.Ytmnidohgnnpeiaa.Nam
set_option linter.unusedVariables false
set_option linter.unusedSimpArgs false

theorem refAll_calls (A0 : Option Addr) (c0 : Nat) (l0 : List Int) (w : World) (hr0 : Kd.C (Kd.int .u8) w A0 l0.length l0) (hc0 : l0.length ≤ c0) (hby : isBytes l0) (hlen : l0.length ≤ 1000000000000) (r1 : List S26) (r2 : Int) (h : takeAll (l0.length + 1) l0 [] = (r1, r2)) :
    Calls Try.prog 19 #[.slice A0 l0.length c0] w fun e w' => ∃ v0_ : Value, e = .returned (.tuple #[v0_, .int .i64 r2]) ∧ Kd.S k26 26 w' w.heap.size (fun _ => True) v0_ r1 ∧ Below w.heap.size w w' := by
  have HR0 := Aside0.mk hr0
  have HC0 := Aside0.mk hc0
  have HBY := Aside0.mk hby
  have HH := Aside0.mk h
  clear hr0 hc0 hby h
  have hu26 := Try.underlying26
  go_enter Try.func19, Try.ntmps19
  have hu44 := Try.underlying44
  go_upto_region 2 with (first | ((with_reducible refine gate_dst (N := 10) rfl ?_); refine box_event ?hg (N := 10) ?hd (cs := #[.slice A0 l0.length c0, .bool false]) (t := 44) ?hr ?_; (case hd => rfl); (case hg => rfl); (case hr => first | (go_simp; done) | (go_simp; rfl)); intro g hg w1 hbox hb; have HBX0 := Aside0.mk hbox; have HB := Aside0.mk hb; have HG0 := Aside0.mk hg; clear hg hbox hb))
  have HG : Aside0 (w.heap.size ≤ g) := ⟨by rw [HG0.out]; exact Nat.le_refl _⟩
  have HI : Aside0 (Rd 44 (fun k => k < w.heap.size) w1 g l0 false) := ⟨⟨A0, c0, HBX0.out, HC0.out, Kd.C_below HR0.out HB.out, fun ad e hn => Kd.C_lt (e ▸ HR0.out) hn (by decide), by rw [HG0.out]; exact Nat.lt_irrefl _⟩⟩
  clear HBX0 HG0 HR0 HC0
  go_wp2_with (first | ((with_reducible refine gate_dst (N := 11) rfl ?_); refine Kd.S_lit k26 (w0 := w) w.heap.size 26 ?hg (N := 11) ?hd (xs := ([] : List S26)) (inner := []) (ok := fun _ => True) (okp := fun _ => True) ?hr ?hp (fun _ hk => hk) trivial HB.out HB.out.size (by simp) ?_; (case hd => rfl); (case hg => rfl); (case hr => first | (go_simp; done) | (go_simp; rfl)); (case hp => exact (Reps.none _ _)); intro v5_ w2 ho hb hg_ hnew_; have n1_ := Aside0.mk (HI.out.grown hg_ (by simp) (fun _ _ => by simp)); have n2_ := Aside0.mk hb; have HS0 := Aside0.mk ho; clear HI HB ho hb hg_ hnew_; have HI := n1_; have HB := n2_; clear n1_ n2_))
  go_loopg [5] (l0.length + 1) (fun k v5 w' => ∃ (l : List Int) (acc : List S26), Aside0 (takeAll k l acc = (r1, r2)) ∧ Aside0 (l.length < k) ∧ Aside0 (acc.length + l.length ≤ l0.length) ∧ Aside0 (isBytes l) ∧ Aside0 (Rd 44 (fun k => k < w.heap.size) w' g l false) ∧ Aside0 (Kd.S k26 26 w' w.heap.size (fun _ => True) v5 acc) ∧ Aside0 (Below w.heap.size w w'))
  case atStart => exact ⟨l0, [], HH, ⟨by omega⟩, ⟨by simp⟩, HBY, HI, HS0, HB⟩
  case round =>
    clear HH HI HB HS0
    obtain ⟨l, acc, HH, HK, HL, HBY, HI, HS, HB⟩ := hrel
    obtain ⟨A, c, e5, _, _⟩ := Kd.S_reads HS.out
    subst e5
    obtain ⟨A', c', hblk', _⟩ := id HI.out
    have hr0 := blk_cell hblk' 0
    clear hblk'
    obtain ⟨k, rfl⟩ : ∃ m, gk = m + 1 := ⟨gk - 1, by have := HK.out; omega⟩
    by_cases hl : l.length = 0
    · have hd : decide ((0 : Int) < (l.length : Int)) = false := decide_eq_false (by omega)
      have HE := Aside0.mk ((takeAll_fuel k l acc hl).symm.trans HH.out)
      go_wp2
      go_ret2
      have he := HE.out
      simp only [Prod.mk.injEq] at he
      obtain ⟨rfl, rfl⟩ := he
      exact ⟨_, rfl, HS.out, HB.out⟩
    have hd : decide ((0 : Int) < (l.length : Int)) = true := decide_eq_true (by omega)
    obtain ⟨x, c1, l', b', hx⟩ : ∃ x c1 l' b', takeE l false = (x, c1, l', b') := ⟨_, _, _, _, rfl⟩
    have HX := Aside0.mk hx
    have HT := Aside0.mk (refTake_walk _ wr g l HI.out HBY.out (fun k hk => Nat.lt_of_lt_of_le hk HB.out.size) x c1 l' b' hx)
    clear hx
    go_wp2_with fail
    refine HT.out.mono ?_
    rintro e w2 ⟨v2, v3, l2, b2, rfl, h2, h3, hI, hby, heq, hb, hk⟩
    have HEQ := Aside0.mk heq
    clear heq hr0
    have HS2 : Aside0 (Kd.S k26 26 w2 w.heap.size (fun k => k < wr.heap.size) (.slice A acc.length c) acc) := ⟨by
      obtain ⟨A', c', hblk, _⟩ := HI.out
      exact S_turn HS.out hblk (by decide) hk⟩
    have H2 := Aside0.mk h2
    have H3 := Aside0.mk h3
    have HI2 := Aside0.mk hI
    have HBY2 := Aside0.mk hby
    have HB2 := Aside0.mk (HB.out.trans (hb.mono HG.out))
    have HSZ := Aside0.mk hk.1
    have HWR := Aside0.mk HB.out.size
    have HBYL := Aside0.mk HBY.out
    clear h2 h3 hI hby hb hk HI HS HB HBY HT
    obtain ⟨A2, c2, e2⟩ := Kd.R_slice H2.out
    subst e2
    obtain ⟨A3, c3, e3⟩ := Kd.R_slice H3.out
    subst e3
    go_upto_region 5 with (first | ((with_reducible refine gate_dst (N := 6) rfl ?_); refine box_event ?hg (N := 6) ?hd (cs := #[.string (⟨#[]⟩ : ByteArray), .string (⟨#[]⟩ : ByteArray), .slice none 0 0, .slice none 0 0]) (t := 26) ?hr ?_; (case hd => rfl); (case hg => rfl); (case hr => first | (go_simp; done) | (go_simp; rfl)); intro B hgB w3 hbox hb; have HBX := Aside0.mk hbox; have HBN := Aside0.mk hgB; have n1_ := Aside0.mk (Kd.S_below HS2.out hb); have n2_ := Aside0.mk (Kd.R_below H2.out hb); have n3_ := Aside0.mk (Kd.R_below H3.out hb); have n4_ := Aside0.mk (HI2.out.below hb); have n5_ := Aside0.mk (below_step HB2.out hb); have HGB := Aside0.mk (show g ≠ B by have := HI2.out.lt; omega); clear HS2 H2 H3 HI2 HB2 hbox hgB hb; have HS2 := n1_; have H2 := n2_; have H3 := n3_; have HI2 := n4_; have HB2 := n5_; clear n1_ n2_ n3_ n4_ n5_; have hq0 := blk_cell HBX.out 0; have hq1 := blk_cell HBX.out 1; have hq2 := blk_cell HBX.out 2; have hq3 := blk_cell HBX.out 3; have hf0 := blk_frozen HBX.out 0; have hf1 := blk_frozen HBX.out 1; have hf2 := blk_frozen HBX.out 2; have hf3 := blk_frozen HBX.out 3))
    have HBG : Aside0 (wr.heap.size ≤ B ∧ w.heap.size ≤ B) := ⟨by have := HBN.out; have := HSZ.out; have := HWR.out; omega⟩
    have n1_ := Aside0.mk (Kd.S_far (p := ⟨B, 3, none⟩) (Kd.S_far (p := ⟨B, 2, none⟩) (Kd.S_far (p := ⟨B, 1, none⟩) (Kd.S_far (p := ⟨B, 0, none⟩) HS2.out (fun k hk => by have := HBG.out.1; show k ≠ B; omega) (.string x.f0)) (fun k hk => by have := HBG.out.1; show k ≠ B; omega) (.string x.f1)) (fun k hk => by have := HBG.out.1; show k ≠ B; omega) (.slice A2 x.f2.length c2)) (fun k hk => by have := HBG.out.1; show k ≠ B; omega) (.slice A3 x.f3.length c3))
    have n2_ := Aside0.mk (R_set4 H2.out HBX.out (by decide) (.string x.f0) (.string x.f1) (.slice A2 x.f2.length c2) (.slice A3 x.f3.length c3))
    have n3_ := Aside0.mk (R_set4 H3.out HBX.out (by decide) (.string x.f0) (.string x.f1) (.slice A2 x.f2.length c2) (.slice A3 x.f3.length c3))
    have n4_ := Aside0.mk ((((HI2.out.kept ((KeepBut.refl _ B none).set_ 0 (.string x.f0)) HGB.out (by have := HBG.out.2; omega)).kept ((KeepBut.refl _ B none).set_ 1 (.string x.f1)) HGB.out (by have := HBG.out.2; omega)).kept ((KeepBut.refl _ B none).set_ 2 (.slice A2 x.f2.length c2)) HGB.out (by have := HBG.out.2; omega)).kept ((KeepBut.refl _ B none).set_ 3 (.slice A3 x.f3.length c3)) HGB.out (by have := HBG.out.2; omega))
    have n5_ := Aside0.mk ((((HB2.out.setCell (p := ⟨B, 0, none⟩) HBG.out.2 (.string x.f0)).setCell (p := ⟨B, 1, none⟩) HBG.out.2 (.string x.f1)).setCell (p := ⟨B, 2, none⟩) HBG.out.2 (.slice A2 x.f2.length c2)).setCell (p := ⟨B, 3, none⟩) HBG.out.2 (.slice A3 x.f3.length c3))
    have n6_ := Aside0.mk (blk_put (cs' := #[.string x.f0, .string x.f1, .slice A2 x.f2.length c2, .slice A3 x.f3.length c3]) (blk_put (cs' := #[.string x.f0, .string x.f1, .slice A2 x.f2.length c2, .slice none 0 0]) (blk_put (cs' := #[.string x.f0, .string x.f1, .slice none 0 0, .slice none 0 0]) (blk_put (cs' := #[.string x.f0, .string ⟨#[]⟩, .slice none 0 0, .slice none 0 0]) HBX.out 0 (.string x.f0) rfl) 1 (.string x.f1) rfl) 2 (.slice A2 x.f2.length c2) rfl) 3 (.slice A3 x.f3.length c3) rfl)
    clear HS2 H2 H3 HI2 HB2 HBX hq0 hq1 hq2 hq3 hf0 hf1 hf2 hf3
    generalize (((w3.setCell ⟨B, 0, none⟩ (.string x.f0)).setCell ⟨B, 1, none⟩ (.string x.f1)).setCell ⟨B, 2, none⟩ (.slice A2 x.f2.length c2)).setCell ⟨B, 3, none⟩ (.slice A3 x.f3.length c3) = w4 at n1_ n2_ n3_ n4_ n5_ n6_ ⊢
    by_cases hc1 : c1 = 0
    · have hbn : (c1 != 0) = false := bne_eq_false_iff_eq.mpr hc1
      have HC1 := Aside0.mk hc1
      have hq0 := blk_cell n6_.out 0
      have hq1 := blk_cell n6_.out 1
      have hq2 := blk_cell n6_.out 2
      have hq3 := blk_cell n6_.out 3
      clear hc1
      have HGD := Aside0.mk (takeE_good HBYL.out (by rw [HX.out, HC1.out] : takeE l false = (x, 0, l', b')))
      have HLEN : Aside0 (acc.length ≤ 1000000000000) := ⟨by have := HL.out; omega⟩
      have hlen2 := HLEN.out
      have HAP : Aside0 (∀ k, wr.heap.size ≤ k → True ∧ some k ≠ (Value.slice A acc.length c).ownBlock) := ⟨fun k hk => ⟨trivial, fun e_ => by have h_ := (Kd.S_R n1_.out).1 k e_.symm; omega⟩⟩
      have HAQ : Aside0 (Kd.S k26 26 w4 w.heap.size (fun k => True ∧ ¬ wr.heap.size ≤ k) (.slice A acc.length c) acc) := ⟨Kd.S_mono n1_.out (fun k hk => ⟨trivial, by omega⟩)⟩
      have HMK : Aside0 ((k26).M w4 w.heap.size (fun k => wr.heap.size ≤ k) x [.string x.f0, .string x.f1, .slice A2 x.f2.length c2, .slice A3 x.f3.length c3]) := ⟨k26_mkM _ _ _ x (Kd.R_lower (Kd.R_mono (Kd.R_bound n2_.out) (fun k hk => hk.2.1)) HWR.out) (Kd.R_lower (Kd.R_mono (Kd.R_bound n3_.out) (fun k hk => hk.2.1)) HWR.out)⟩
      go_wp2_with (first | ((with_reducible refine gate_builtin (b := .append) (xs := #[.tmp 25, .tmp 27]) rfl ?_); at_builtin; refine Kd.S_append k26 (w0 := w) w.heap.size rfl (.tmp 25) (.tmp 27) 46 26 (.agg #[.string ⟨#[]⟩, .string ⟨#[]⟩, .slice none 0 0, .slice none 0 0]) 80 rfl Try.underlying46 info_event rfl (by decide) (by omega) (.slice A acc.length c) acc x [.string x.f0, .string x.f1, .slice A2 x.f2.length c2, .slice A3 x.f3.length c3] (fun _ => True) (fun k => wr.heap.size ≤ k) rfl rfl HMK.out HAP.out (fun _ _ => trivial) HAQ.out n5_.out n5_.out.size (by omega) ?_; intro v w5 ho hb hg hat; have HO := Aside0.mk ho; have HBl := Aside0.mk hb; have HGR := Aside0.mk hg; clear ho hb hg hat))
      have hl2 : l'.length < l.length := by
        have h := congrArg List.length HGD.out.2.2.2
        have := encEv_pos x.f0 x.f1 x.f2 x.f3
        rw [List.length_append] at h; omega
      have HL2 := Aside0.mk hl2
      clear hl2
      go_roundg k
      case measure => omega
      case rel =>
        obtain ⟨rfl, rfl⟩ := HEQ.out HC1.out
        refine ⟨l2, acc ++ [x], ⟨?_⟩, ⟨by have := HL2.out; have := HK.out; omega⟩, ⟨by have := HL2.out; have := HL.out; rw [List.length_append, List.length_singleton]; omega⟩, HBY2, ⟨?_⟩, HO, HBl⟩
        · have h := HH.out
          rw [takeAll, if_neg hl, HX.out] at h
          simp only at h
          rw [if_pos HC1.out] at h
          exact h
        · have h := n4_.out.grown HGR.out (by obtain ⟨A', c', hblk, _⟩ := n4_.out; exact Kd.S_ne n1_.out hblk (by decide)) (fun k hk => ne_base (Kd.S_base n1_.out) hk)
          rw [HGD.out.2.1] at h
          exact h
    · have hbn : (c1 != 0) = true := bne_iff_ne.mpr hc1
      have HC2 : Aside0 (c1 = 2) := ⟨by
        rcases takeE_code l false with h | h
        · rw [HX.out] at h; exact absurd h hc1
        · rw [HX.out] at h; exact h.1⟩
      have HE : Aside0 (r1 = [] ∧ r2 = c1) := ⟨by
        have h := HH.out
        rw [takeAll, if_neg hl, HX.out] at h
        simp only at h
        rw [if_neg hc1] at h
        simp only [Prod.mk.injEq] at h
        exact ⟨h.1.symm, h.2.symm⟩⟩
      clear hc1
      go_wp2
      go_ret2
      obtain ⟨rfl, h2⟩ := HE.out
      rw [HC2.out] at h2
      subst h2
      exact ⟨_, rfl, Kd.S_nil _ _ _ _ _, n5_.out⟩
end Go.Proofs.Ytmnidohgnnpeiaa.Prt
namespace Go.Proofs.Ytmnidohgnnpeiaa.Prt
open Go.RowKit Go.Proofs.YtmnidohgnnpeiaaW.PrintWords Go.Proofs.YtmnidohgnnpeiaaW.PrintLast Go.Proofs.YtmnidohgnnpeiaaW.PrintMore Go.Proofs.Ytmnidohgnnpeiaa.Num Go.Proofs.Ytmnidohgnnpeiaa.Nam
set_option linter.unusedVariables false
set_option linter.unusedSimpArgs false

end Go.Proofs.Ytmnidohgnnpeiaa.Prt
namespace Go.Proofs.Ytmnidohgnnpeiaa.Prt
open Go.RowKit Go.Proofs.YtmnidohgnnpeiaaW.PrintWords Go.Proofs.YtmnidohgnnpeiaaW.PrintLast Go.Proofs.YtmnidohgnnpeiaaW.PrintMore Go.Proofs.Ytmnidohgnnpeiaa.Num Go.Proofs.Ytmnidohgnnpeiaa.Nam
set_option linter.unusedVariables false
set_option linter.unusedSimpArgs false

/-- An event x stands in block B of W, all of it in blocks below M. -/
structure Ev (M : Nat) (W : World) (B : Nat) (x : S26) (v2 v3 : Value) : Prop where
  hE : W.heap[B]? = some (.cells #[.string x.f0, .string x.f1, v2, v3] 26 (0, 0))
  lt : B < M
  r2 : Kd.string.R 9 W 0 (fun k => k < M) v2 x.f2
  r3 : k35.R 35 W 0 (fun k => k < M) v3 x.f3
section
variable {M : Nat} {W W1 : World} {B g : Nat} {x : S26} {v2 v3 : Value}
theorem Ev.below (h : Ev M W B x v2 v3) (hb : Below W.heap.size W W1) : Ev M W1 B x v2 v3 := ⟨blk_below h.hE hb, h.lt, Kd.R_below h.r2 hb, Kd.R_below h.r3 hb⟩
theorem Ev.keep (h : Ev M W B x v2 v3) (hk : KeepBut W W1 g none) (hg : M ≤ g) : Ev M W1 B x v2 v3 :=
  ⟨hk.blk h.hE (by have := h.lt; omega) (by simp), h.lt, Kd.R_keep h.r2 hk (fun k hk => by omega), Kd.R_keep h.r3 hk (fun k hk => by omega)⟩
theorem Ev.set (h : Ev M W B x v2 v3) {C : Nat} (hC : M ≤ C) (i : Nat) (u : Value) : Ev M (W.setCell ⟨C, i, none⟩ u) B x v2 v3 := h.keep ((KeepBut.refl W C none).set_ i u) hC
/-- An event just stored in a new block. -/
theorem Ev.make {w2 w3 : World} {base : Nat} (r2 : Kd.string.R 9 w2 base (fun _ => True) v2 x.f2) (r3 : k35.R 35 w2 base (fun _ => True) v3 x.f3) (hB : B = w2.heap.size)
    (hbox : w3.heap[B]? = some (.cells #[.string ⟨#[]⟩, .string ⟨#[]⟩, .slice none 0 0, .slice none 0 0] 26 (0, 0))) (hb : Below w2.heap.size w2 w3) :
    Ev (B + 1) ((((w3.setCell ⟨B, 0, none⟩ (.string x.f0)).setCell ⟨B, 1, none⟩ (.string x.f1)).setCell ⟨B, 2, none⟩ v2).setCell ⟨B, 3, none⟩ v3) B x v2 v3 := by
  refine ⟨?_, by omega, ?_, ?_⟩
  · simpa using blk_set (blk_set (blk_set (blk_set hbox 0 (.string x.f0)) 1 (.string x.f1)) 2 v2) 3 v3
  · have h := Kd.R_mono (Kd.R_bound r2) (ok' := fun k => k < B) (fun k hk => by rw [hB]; exact hk.2.2.1)
    have h2 := R_set4 (d := Kd.string) (e := 9) (Kd.R_mono (Kd.R_below h hb) (fun _ _ => trivial)) hbox (by decide) (.string x.f0) (.string x.f1) v2 v3
    exact Kd.R_lower (Kd.R_mono (Kd.R_keep (Kd.R_below h hb) (((((KeepBut.refl w3 B none).set_ 0 (.string x.f0)).set_ 1 (.string x.f1)).set_ 2 v2).set_ 3 v3) (fun k hk => by omega)) (fun k hk => by omega)) (Nat.zero_le _)
  · have h := Kd.R_mono (Kd.R_bound r3) (ok' := fun k => k < B) (fun k hk => by rw [hB]; exact hk.2.2.1)
    exact Kd.R_lower (Kd.R_mono (Kd.R_keep (Kd.R_below h hb) (((((KeepBut.refl w3 B none).set_ 0 (.string x.f0)).set_ 1 (.string x.f1)).set_ 2 v2).set_ 3 v3) (fun k hk => by omega)) (fun k hk => by omega)) (Nat.zero_le _)
end
end Go.Proofs.Ytmnidohgnnpeiaa.Prt
namespace Go.Proofs.Ytmnidohgnnpeiaa.Prt
open Go.RowKit Go.Proofs.YtmnidohgnnpeiaaW.PrintWords Go.Proofs.YtmnidohgnnpeiaaW.PrintLast Go.Proofs.YtmnidohgnnpeiaaW.PrintMore Go.Proofs.Ytmnidohgnnpeiaa.Num Go.Proofs.Ytmnidohgnnpeiaa.Nam
set_option linter.unusedVariables false
set_option linter.unusedSimpArgs false

def OkX (x : S26) : Prop := OkE x.f0 x.f1 x.f2 x.f3
def encX (x : S26) : List Int := encEv x.f0 x.f1 x.f2 x.f3
def encEs (l : List S26) : List Int := l.flatMap encX
theorem encEs_cons (x : S26) (l : List S26) : encEs (x :: l) = encX x ++ encEs l := by unfold encEs; rw [List.flatMap_cons]
/-- What is taken without an error stands there as bytes, one and all. -/
theorem takeAll_good : ∀ (k : Nat) (l : List Int) (acc r : List S26), isBytes l → l.length < k → takeAll k l acc = (r, 0) → ∃ g, r = acc ++ g ∧ (∀ x ∈ g, OkX x) ∧ l = encEs g := by
  intro k
  induction k with
  | zero => intro l acc r hb hk; omega
  | succ k ih =>
    intro l acc r hb hk h
    rw [takeAll] at h
    by_cases h0 : l.length = 0
    · rw [if_pos h0] at h
      refine ⟨[], ?_, fun x hx => by simp at hx, ?_⟩
      · rw [List.append_nil]; exact (congrArg (·.1) h).symm
      · exact List.eq_nil_of_length_eq_zero h0
    rw [if_neg h0] at h
    by_cases h1 : (takeE l false).2.1 = 0
    · rw [if_pos h1] at h
      obtain ⟨⟨x, c, l', b'⟩, e⟩ : ∃ q, takeE l false = q := ⟨_, rfl⟩
      rw [e] at h h1
      simp only at h h1
      subst h1
      obtain ⟨g1, g2, g3, g4⟩ := takeE_good hb e
      have hp := encEv_pos x.f0 x.f1 x.f2 x.f3
      have hb' : isBytes l' := by rw [g4] at hb; exact (isBytes_append.1 hb).2
      obtain ⟨g, e1, e2, e3⟩ := ih l' (acc ++ [x]) r hb' (by rw [g4, List.length_append] at hk; omega) h
      refine ⟨x :: g, by rw [e1, List.append_assoc]; rfl, ?_, ?_⟩
      · intro y hy
        rcases List.mem_cons.1 hy with rfl | hy
        · exact g3
        · exact e2 y hy
      · rw [encEs_cons, g4, e3]; rfl
    · rw [if_neg h1] at h
      exact absurd (congrArg (·.2) h) h1
theorem takeAll_code : ∀ (k : Nat) (l : List Int) (acc : List S26), (takeAll k l acc).2 = 0 ∨ takeAll k l acc = ([], 2) := by
  intro k
  induction k with
  | zero => intro l acc; exact .inl rfl
  | succ k ih =>
    intro l acc
    rw [takeAll]
    by_cases h0 : l.length = 0
    · rw [if_pos h0]; exact .inl rfl
    rw [if_neg h0]
    by_cases h1 : (takeE l false).2.1 = 0
    · rw [if_pos h1]; exact ih _ _
    · rw [if_neg h1]
      rcases takeE_code l false with h2 | h2
      · exact absurd h2 h1
      · rw [h2.1]; exact .inr rfl
theorem sameAll_ok (g : List S26) (hg : g.length ≤ 9223372036854775807) (h : ∀ x ∈ g, OkX x) : registrarref04_SameAllG.f g g = some true := by
  have e : g.all lenE = true := List.all_eq_true.2 (fun x hx => by
    have h1 := (h x hx).ht6
    have h2 := (h x hx).hf4
    unfold lenE
    rw [Bool.and_eq_true, decide_eq_true_iff, decide_eq_true_iff]; omega)
  have e2 : eqL eqE g g = true := by
    clear e hg h
    induction g with
    | nil => rfl
    | cons x r ih => rw [eqL, (eqE_iff x x).2 rfl, ih]; rfl
  unfold registrarref04_SameAllG.f
  rw [if_pos ⟨hg, e⟩, e2]
end Go.Proofs.Ytmnidohgnnpeiaa.Prt
namespace Go.Proofs.Ytmnidohgnnpeiaa.Prt
open Go.RowKit Go.Proofs.YtmnidohgnnpeiaaW.PrintWords Go.Proofs.YtmnidohgnnpeiaaW.PrintLast Go.Proofs.YtmnidohgnnpeiaaW.PrintMore Go.Proofs.Ytmnidohgnnpeiaa.Num Go.Proofs.Ytmnidohgnnpeiaa.Nam
set_option linter.unusedVariables false
set_option linter.unusedSimpArgs false

theorem isBytes_wf {l : List Int} (h : ∀ n ∈ l, (Lit.int .u8 n).wf = true) : isBytes l := by
  intro c hc
  have h1 := h c hc
  simp [Lit.wf, IntKind.min, IntKind.max, IntKind.bits, IntKind.signed] at h1
  omega
open Go.Proofs.YtmnidohgnnpeiaaW.PrintLast
def D6.T14 : Bool × List (List Nat × List Nat) := (true, [([], []), ([0], [0]), ([1], [1]), ([1, 2], [1, 2]), ([3, 1], [3]), ([4], [4]), ([4], [4]), ([5, 6, 4], [4, 5, 6]), ([4, 7], [4, 7]), ([8, 4], [8]), ([9], [9]), ([10, 9], [9, 10]), ([11, 9, 9], [9, 11]), ([12], [12]), ([13, 12, 12], [12, 13]), ([12], [12]), ([15, 12], [12, 15]), ([16, 12], [12, 16]), ([17, 12], [12, 17]), ([18, 12], [12, 18]), ([14, 19, 12], [12, 14, 19]), ([12, 20, 9], [9, 12, 20]), ([9, 21], [9, 21]), ([22, 14], [22]), ([23], [23]), ([23, 24], [23, 24]), ([25, 23], [25]), ([26], [26]), ([26], [26]), ([27, 28, 26], [26, 27, 28]), ([26, 29], [26, 29]), ([30, 26, 0, 1, 2, 3, 4, 5, 6, 7, 8, 9, 10, 11, 12, 13, 14, 15, 16, 17, 18, 19, 20, 21, 22, 23, 24, 25, 26, 27, 28, 29, 30], [30])])
def D6.B14 : List Nat := [0, 1, 3, 7, 15, 31, 31, 127, 255, 511, 1023, 2047, 4095, 8191, 16383, 8191, 40959, 106495, 237567, 499711, 1048575, 2097151, 4194303, 8388607, 16777215, 33554431, 67108863, 134217727, 134217727, 536870911, 1073741823, 2147483647]
theorem D6.tab14 : rtab .any (opsOf Try.f6 14) = D6.T14 := by kernel_rfl
theorem D6.bits14 : waitsOk D6.T14.2 D6.B14 = true := by kernel_rfl
set_option maxHeartbeats 4000000 in
set_option maxRecDepth 100000 in
theorem evcodeTakes_law (A0 : Option Addr) (len0 cap0 : Nat) (z0 : List Int) (w : World) (w0 : (A0 = none ∧ len0 = 0 ∧ cap0 = 0 ∧ z0 = []) ∨ ∃ x, A0 = some x ∧ len0 ≤ cap0 ∧ cap0 ≤ maxLen ∧ z0.length = cap0 ∧ (∀ i, i < z0.length → w.cell? (x.add i) = some (.int .u8 (z0.getD i 0))) ∧ ∀ n ∈ z0, (Lit.int .u8 n).wf = true) (y0 : len0 * 1 ≤ 140737488351232) :
    Calls Try.prog 6 #[.slice A0 len0 cap0] w fun e w' => e = .returned (.bool true) ∧ Below w.heap.size w w' := by
  obtain ⟨l0, rfl, hr, hm0, hw, hc0⟩ := ReadsInt.ofRowC w0
  have hC := Kd.C_of_reads (d := (0 : Int)) (h1 := fun _ => rfl) hr
  have HR0 := Aside0.mk hC
  have HBY0 := Aside0.mk (isBytes_wf hw)
  clear w0 hr hw hC
  clear y0
  have hu26 := Try.underlying26
  go_enter Try.func6, Try.ntmps6
  go_upto_if 19 with ((go_at_call 9; refine (registrarlaw05_shown.calls true _ shown05).mono ?_; rintro e w1 ⟨rfl, hb⟩; have HB := Aside0.mk hb; clear hb))
  obtain ⟨n0, hn⟩ : ∃ n, n = min 600 l0.length := ⟨_, rfl⟩
  have hna0 : n0 ≤ 600 := by omega
  have hnb0 : n0 ≤ l0.length := by omega
  go_cut [0] (fun vc wc => vc = .slice A0 n0 cap0 ∧ w1 = wc)
  case first =>
    by_cases hb_ : 600 < l0.length
    · have e : n0 = 600 := by omega
      subst e
      clear hn
      go_wp2
      go_meet
      case rel => exact ⟨rfl, rfl⟩
    · have e : n0 = l0.length := by omega
      subst e
      clear hn
      go_wp2
      go_meet
      case rel => exact ⟨rfl, rfl⟩
  case rest =>
  obtain ⟨rfl, rfl⟩ := hcut
  have hcap0 : n0 ≤ cap0 := by omega
  obtain ⟨lb, hlb⟩ : ∃ lb, lb = l0.take n0 := ⟨_, rfl⟩
  have hlen : lb.length = n0 := by rw [hlb, List.length_take]; omega
  have HLB0 := Aside0.mk (show (Kd.int .u8).C w A0 lb.length lb by rw [hlen, hlb]; exact take_C HR0.out hnb0)
  have HBZ0 := Aside0.mk (show isBytes lb by rw [hlb]; exact isBytes_take HBY0.out n0)
  clear hlb hn HR0 HBY0
  subst hlen
  go_wp2_with (first
    | ((with_reducible refine gate_dst (N := 22) rfl ?_); refine Kd.R_lit (Kd.int .u8) (w0 := w) w.heap.size 5 ?hg (N := 22) ?hd (xs := []) (inner := []) (ok := fun _ => True) (okp := fun _ => True) ?hr ?hp (fun _ hk => hk) trivial ?hB ?hS (by simp) ?_; (case hd => rfl); (case hg => rfl); (case hr => first | (go_simp; done) | (go_simp; rfl)); (case hp => exact (Reps.none _ _)); (case hB => exact (by repeat (first | (with_reducible first | exact HB.out | apply below_alloc | apply pw_below_drewN | apply below_drew1) | exact HB.out))); (case hS => exact (below_size (by repeat (first | (with_reducible first | exact HB.out | apply below_alloc | apply pw_below_drewN | apply below_drew1) | exact HB.out)))); intro v1 w1 ho hb hg hat; have n0_ := Aside0.mk (hb); have n1_ := Aside0.mk (ho); clear HB; have HB := n0_; have HO1 := n1_; clear n0_ n1_; clear ho hb hg hat)
    | ((with_reducible refine gate_builtin (b := .append) (xs := #[.tmp 22, .tmp 23]) rfl ?_); at_builtin; refine Kd.R_append_rows (Kd.int .u8) (w0 := w) w.heap.size rfl (.tmp 22) (.tmp 23) 22 5 (.int .u8 0) 1 rfl Try.underlying22 info_u8 rfl (by decide) (by omega) v1 [] lb _ _ _ (fun _ => True) (fun _ => False) rfl rfl ?aO ?aR (fun _ _ h => h) (fun _ h => h.elim) ?aF ?aB ?aS ?aL ?_; (case aR => exact (by repeat (first | exact (Kd.C_below HLB0.out HB.out) | (with_reducible refine Kd.C_alloc ?_ _) | (with_reducible refine Kd.C_drewN ?_ _) | (with_reducible refine Kd.C_drew ?_)))); (case aB => exact (by repeat (first | (with_reducible first | exact HB.out | apply below_alloc | apply pw_below_drewN | apply below_drew1) | exact HB.out))); (case aF => exact (fun _ _ => trivial)); (case aO => exact (by (with_reducible repeat (first | apply Kd.R_alloc | apply Kd.R_drewN | apply Kd.R_drew)); exact HO1.out)); (case aS => exact (below_size (by repeat (first | (with_reducible first | exact HB.out | apply below_alloc | apply pw_below_drewN | apply below_drew1) | exact HB.out)))); (case aL => simp only [List.length_nil]; omega); intro v2 w2 ho hb hg hat; have n0_ := Aside0.mk (hb); have n1_ := Aside0.mk (ho); clear HB; clear HO1; have HB := n0_; have HO2 := n1_; clear n0_ n1_; clear ho hb hg hat))
  obtain ⟨A1, c1, e1, hc1, hC1⟩ := Kd.R_reads HO2.out
  subst e1
  rw [List.nil_append] at hc1 hC1 ⊢
  have HC1 := Aside0.mk hC1
  clear hC1 HO2
  refine (newReader_calls A1 c1 lb _ HC1.out hc1).mono ?_
  rintro e w3 ⟨g, rfl, hI, hb, hg⟩
  have HI := Aside0.mk hI
  have HG := Aside0.mk hg
  have HB3 := Aside0.mk (below_step (by repeat (first | (with_reducible first | exact HB.out | apply below_alloc | apply pw_below_drewN | apply below_drew1) | exact HB.out)) hb)
  have HGW := Aside0.mk (Nat.le_trans ((by repeat (first | (with_reducible first | exact HB.out | apply below_alloc | apply pw_below_drewN | apply below_drew1) | exact HB.out)) : Below w.heap.size w _).size hg)
  clear HB HC1 hI hb hg hc1
  have HB := HB3
  clear HB3
  obtain ⟨x, c, l', b', hx⟩ : ∃ x c l' b', takeE lb false = (x, c, l', b') := ⟨_, _, _, _, rfl⟩
  have HX := Aside0.mk hx
  clear hx
  go_wp2_with fail
  refine (take_walk _ w3 g lb false HI.out HBZ0.out (fun k hk => by have := HI.out.lt; have := HG.out; have hk' : k < w2.heap.size := hk; omega) x c l' b' HX.out).mono ?_
  rintro e w4 ⟨v2, v3, rfl, h2, h3, hI, hby, hb, hk⟩
  have HSW := Aside0.mk (show w2.heap.size ≤ w4.heap.size by have := HI.out.lt; have := HG.out; have := hk.1; omega)
  have HB4 := Aside0.mk (HB.out.trans (hb.mono HGW.out))
  have H2 := Aside0.mk h2
  have H3 := Aside0.mk h3
  have HI4 := Aside0.mk hI
  clear HB HI h2 h3 hI hby hb hk
  obtain ⟨A2, c2, e2⟩ := Kd.R_slice H2.out
  subst e2
  obtain ⟨A3, c3, e3⟩ := Kd.R_slice H3.out
  subst e3
  go_upto_region 8 with (first | ((with_reducible refine gate_dst (N := 5) rfl ?_); refine box_event ?hg (N := 5) ?hd (cs := #[.string (⟨#[]⟩ : ByteArray), .string (⟨#[]⟩ : ByteArray), .slice none 0 0, .slice none 0 0]) (t := 26) ?hr ?_; (case hd => rfl); (case hg => rfl); (case hr => first | (go_simp; done) | (go_simp; rfl)); intro B hgB w5 hbox hb; have HBX := Aside0.mk hbox; have HBN := Aside0.mk hgB; have HBB := Aside0.mk hb; clear hbox hgB hb; have hq0 := blk_cell HBX.out 0; have hq1 := blk_cell HBX.out 1; have hq2 := blk_cell HBX.out 2; have hq3 := blk_cell HBX.out 3; have hf0 := blk_frozen HBX.out 0; have hf1 := blk_frozen HBX.out 1; have hf2 := blk_frozen HBX.out 2; have hf3 := blk_frozen HBX.out 3))
  have HE1 := Aside0.mk (Ev.make H2.out H3.out HBN.out HBX.out HBB.out)
  have HWB := Aside0.mk (show w.heap.size ≤ B by rw [HBN.out]; exact HB4.out.size)
  have HGB := Aside0.mk (show g ≠ B ∧ ¬ B < w2.heap.size by have h1 := HI4.out.lt; have h2 := HSW.out; have h3 := HBN.out; omega)
  have HI5 := Aside0.mk (((((HI4.out.below HBB.out).kept ((KeepBut.refl _ B none).set_ 0 (.string x.f0)) HGB.out.1 HGB.out.2).kept ((KeepBut.refl _ B none).set_ 1 (.string x.f1)) HGB.out.1 HGB.out.2).kept ((KeepBut.refl _ B none).set_ 2 (.slice A2 x.f2.length c2)) HGB.out.1 HGB.out.2).kept ((KeepBut.refl _ B none).set_ 3 (.slice A3 x.f3.length c3)) HGB.out.1 HGB.out.2)
  have HB5 := Aside0.mk (((((below_step HB4.out HBB.out).setCell (p := ⟨B, 0, none⟩) HWB.out (.string x.f0)).setCell (p := ⟨B, 1, none⟩) HWB.out (.string x.f1)).setCell (p := ⟨B, 2, none⟩) HWB.out (.slice A2 x.f2.length c2)).setCell (p := ⟨B, 3, none⟩) HWB.out (.slice A3 x.f3.length c3))
  clear H2 H3 HI4 HB4 HBX HBB hq0 hq1 hq2 hq3 hf0 hf1 hf2 hf3
  generalize (((w5.setCell ⟨B, 0, none⟩ (.string x.f0)).setCell ⟨B, 1, none⟩ (.string x.f1)).setCell ⟨B, 2, none⟩ (.slice A2 x.f2.length c2)).setCell ⟨B, 3, none⟩ (.slice A3 x.f3.length c3) = w6 at HE1 HI5 HB5 ⊢
  have HB := HB5
  clear HB5
  have HLB := Aside0.mk (Kd.C_below HLB0.out HB.out)
  have HL := Aside0.mk (Below.refl w6.heap.size w6)
  have hu44 := Try.underlying44
  go_upto_region 9 with (first
    | ((with_reducible refine gate_dst (N := 33) rfl ?_); refine Kd.R_lit (Kd.int .u8) (w0 := w6) w6.heap.size 5 ?hg (N := 33) ?hd (xs := []) (inner := []) (ok := fun _ => True) (okp := fun _ => True) ?hr ?hp (fun _ hk => hk) trivial ?hB ?hS (by simp) ?_; (case hd => rfl); (case hg => rfl); (case hr => first | (go_simp; done) | (go_simp; rfl)); (case hp => exact (Reps.none _ _)); (case hB => exact (by repeat (first | (with_reducible first | exact HL.out | apply below_alloc | apply pw_below_drewN | apply below_drew1) | exact HL.out))); (case hS => exact (below_size (by repeat (first | (with_reducible first | exact HL.out | apply below_alloc | apply pw_below_drewN | apply below_drew1) | exact HL.out)))); intro v7 w7 ho hb hg hat; have n0_ := Aside0.mk (hb); have n1_ := Aside0.mk (ho); clear HL; have HL := n0_; have HO7 := n1_; clear n0_ n1_; clear ho hb hg hat)
    | ((with_reducible refine gate_builtin (b := .append) (xs := #[.tmp 33, .tmp 34]) rfl ?_); at_builtin; refine Kd.R_append_rows (Kd.int .u8) (w0 := w6) w6.heap.size rfl (.tmp 33) (.tmp 34) 22 5 (.int .u8 0) 1 rfl Try.underlying22 info_u8 rfl (by decide) (by omega) v7 [] lb _ _ _ (fun _ => True) (fun _ => False) rfl rfl ?aO ?aR (fun _ _ h => h) (fun _ h => h.elim) ?aF ?aB ?aS ?aL ?_; (case aR => exact (by repeat (first | exact (Kd.C_below HLB.out HL.out) | (with_reducible refine Kd.C_alloc ?_ _) | (with_reducible refine Kd.C_drewN ?_ _) | (with_reducible refine Kd.C_drew ?_)))); (case aB => exact (by repeat (first | (with_reducible first | exact HL.out | apply below_alloc | apply pw_below_drewN | apply below_drew1) | exact HL.out))); (case aF => exact (fun _ _ => trivial)); (case aO => exact (by (with_reducible repeat (first | apply Kd.R_alloc | apply Kd.R_drewN | apply Kd.R_drew)); exact HO7.out)); (case aS => exact (below_size (by repeat (first | (with_reducible first | exact HL.out | apply below_alloc | apply pw_below_drewN | apply below_drew1) | exact HL.out)))); (case aL => simp only [List.length_nil]; omega); intro v8 w8 ho hb hg hat; have n0_ := Aside0.mk (hb); have n1_ := Aside0.mk (ho); clear HL; clear HO7; have HL := n0_; have HO8 := n1_; clear n0_ n1_; clear ho hb hg hat; obtain ⟨A4, c4, e4, hc4, hC4⟩ := Kd.R_reads HO8.out; subst e4; have HC4 := Aside0.mk (by rw [List.nil_append] at hC4; exact hC4 : Kd.C (Kd.int .u8) w8 A4 lb.length lb); have HK4 := Aside0.mk (by rw [List.nil_append] at hc4; exact hc4 : lb.length ≤ c4); clear hC4 hc4; try rw [List.nil_append])
    | ((with_reducible refine gate_dst (N := 37) rfl ?_); refine box_event ?hg (N := 37) ?hd (cs := #[.slice A4 lb.length c4, .bool false]) (t := 44) ?hr ?_; (case hd => rfl); (case hg => rfl); (case hr => first | (go_simp; done) | (go_simp; rfl)); intro g2 hg2 w9 hbox hb; have HBX := Aside0.mk hbox; have HG2 := Aside0.mk hg2; have HBB := Aside0.mk hb; clear hbox hb hg2))
  have HL9 := Aside0.mk (below_step ((by repeat (first | (with_reducible first | exact HL.out | apply below_alloc | apply pw_below_drewN | apply below_drew1) | exact HL.out)) : Below w6.heap.size w6 w8) HBB.out)
  have HY9 : Aside0 (Rd 44 (fun k => k < g2) w9 g2 lb false) := ⟨⟨A4, c4, HBX.out, HK4.out, Kd.C_below HC4.out HBB.out, fun ad e hn => by
    have h2 : ad.block < w8.heap.size := Kd.C_lt (e ▸ HC4.out) hn (by decide)
    have h3 : g2 = w8.heap.size := HG2.out
    show ad.block < g2
    omega, Nat.lt_irrefl g2⟩⟩
  have HEX9 := Aside0.mk (HE1.out.below HL9.out)
  have HI9 := Aside0.mk (HI5.out.below HL9.out)
  have HB9 := Aside0.mk (below_then HB.out HB.out.size HL9.out)
  have HG6 := Aside0.mk (show w6.heap.size ≤ g2 by rw [HG2.out]; exact ((by repeat (first | (with_reducible first | exact HL.out | apply below_alloc | apply pw_below_drewN | apply below_drew1) | exact HL.out)) : Below w6.heap.size w6 w8).size)
  have HGA := Aside0.mk (show g ≠ g2 ∧ ¬ g2 < w2.heap.size ∧ B + 1 ≤ g2 ∧ w.heap.size ≤ g2 by
    have h1 := HI5.out.lt
    have h2 := HSW.out
    have h3 := HBN.out
    have h4 := HG6.out
    have h5 : B < w6.heap.size := blk_lt HE1.out.hE
    have h6 := HB.out.size
    omega)
  clear HL HL9 HLB HO8 HC4 HK4 HBX HBB HE1 HI5 HB HG2
  go_wp2_with fail
  refine (refTake_walk _ w9 g2 lb HY9.out HBZ0.out (fun k hk => Nat.lt_trans hk HY9.out.lt) x c l' b' HX.out).mono ?_
  rintro e w10 ⟨v4, v5, l2, b2, rfl, h2, h3, hI, hby, heq, hb, hk⟩
  have HEQ := Aside0.mk heq
  have H2 := Aside0.mk h2
  have H3 := Aside0.mk h3
  have HY10 := Aside0.mk hI
  have HEX10 := Aside0.mk (HEX9.out.keep hk HGA.out.2.2.1)
  have HI10 := Aside0.mk (HI9.out.kept hk HGA.out.1 HGA.out.2.1)
  have HB10 := Aside0.mk (HB9.out.trans (hb.mono HGA.out.2.2.2))
  clear h2 h3 hI hby heq hb hk HY9 HEX9 HI9 HB9
  obtain ⟨A5, c5, e5⟩ := Kd.R_slice H2.out
  subst e5
  obtain ⟨A6, c6, e6⟩ := Kd.R_slice H3.out
  subst e6
  go_upto_region 10 with (first | ((with_reducible refine gate_dst (N := 8) rfl ?_); refine box_event ?hg (N := 8) ?hd (cs := #[.string (⟨#[]⟩ : ByteArray), .string (⟨#[]⟩ : ByteArray), .slice none 0 0, .slice none 0 0]) (t := 26) ?hr ?_; (case hd => rfl); (case hg => rfl); (case hr => first | (go_simp; done) | (go_simp; rfl)); intro C hgB w11 hbox hb; have HBX := Aside0.mk hbox; have HBN2 := Aside0.mk hgB; have HBB := Aside0.mk hb; clear hbox hgB hb; have hq0 := blk_cell HBX.out 0; have hq1 := blk_cell HBX.out 1; have hq2 := blk_cell HBX.out 2; have hq3 := blk_cell HBX.out 3; have hf0 := blk_frozen HBX.out 0; have hf1 := blk_frozen HBX.out 1; have hf2 := blk_frozen HBX.out 2; have hf3 := blk_frozen HBX.out 3))
  have HGC := Aside0.mk (show (g ≠ C ∧ ¬ C < w2.heap.size) ∧ (g2 ≠ C ∧ ¬ C < g2) ∧ B + 1 ≤ C ∧ w.heap.size ≤ C by
    have h1 := HI10.out.lt
    have h2 := HY10.out.lt
    have h3 := HBN2.out
    have h4 := HGA.out
    omega)
  have HC1 := Aside0.mk (Ev.make H2.out H3.out HBN2.out HBX.out HBB.out)
  have HE11 := Aside0.mk (((((HEX10.out.below HBB.out).set HGC.out.2.2.1 0 (.string x.f0)).set HGC.out.2.2.1 1 (.string x.f1)).set HGC.out.2.2.1 2 (.slice A5 x.f2.length c5)).set HGC.out.2.2.1 3 (.slice A6 x.f3.length c6))
  have HI11 := Aside0.mk (((((HI10.out.below HBB.out).kept ((KeepBut.refl _ C none).set_ 0 (.string x.f0)) HGC.out.1.1 HGC.out.1.2).kept ((KeepBut.refl _ C none).set_ 1 (.string x.f1)) HGC.out.1.1 HGC.out.1.2).kept ((KeepBut.refl _ C none).set_ 2 (.slice A5 x.f2.length c5)) HGC.out.1.1 HGC.out.1.2).kept ((KeepBut.refl _ C none).set_ 3 (.slice A6 x.f3.length c6)) HGC.out.1.1 HGC.out.1.2)
  have HY11 := Aside0.mk (((((HY10.out.below HBB.out).kept ((KeepBut.refl _ C none).set_ 0 (.string x.f0)) HGC.out.2.1.1 HGC.out.2.1.2).kept ((KeepBut.refl _ C none).set_ 1 (.string x.f1)) HGC.out.2.1.1 HGC.out.2.1.2).kept ((KeepBut.refl _ C none).set_ 2 (.slice A5 x.f2.length c5)) HGC.out.2.1.1 HGC.out.2.1.2).kept ((KeepBut.refl _ C none).set_ 3 (.slice A6 x.f3.length c6)) HGC.out.2.1.1 HGC.out.2.1.2)
  have HB11 := Aside0.mk (((((below_step HB10.out HBB.out).setCell (p := ⟨C, 0, none⟩) HGC.out.2.2.2 (.string x.f0)).setCell (p := ⟨C, 1, none⟩) HGC.out.2.2.2 (.string x.f1)).setCell (p := ⟨C, 2, none⟩) HGC.out.2.2.2 (.slice A5 x.f2.length c5)).setCell (p := ⟨C, 3, none⟩) HGC.out.2.2.2 (.slice A6 x.f3.length c6))
  clear H2 H3 HI10 HY10 HEX10 HB10 HBX HBB hq0 hq1 hq2 hq3 hf0 hf1 hf2 hf3
  generalize (((w11.setCell ⟨C, 0, none⟩ (.string x.f0)).setCell ⟨C, 1, none⟩ (.string x.f1)).setCell ⟨C, 2, none⟩ (.slice A5 x.f2.length c5)).setCell ⟨C, 3, none⟩ (.slice A6 x.f3.length c6) = w12 at HC1 HE11 HI11 HY11 HB11 ⊢
  have HLB := Aside0.mk (Kd.C_below HLB0.out HB11.out)
  have HL := Aside0.mk (Below.refl w12.heap.size w12)
  obtain ⟨⟨m, r2⟩, hq⟩ : ∃ q, takeAll (lb.length + 1) lb [] = q := ⟨_, rfl⟩
  have HQ := Aside0.mk hq
  clear hq
  go_wp2_with (first
    | ((with_reducible refine gate_dst (N := 44) rfl ?_); refine Kd.R_lit (Kd.int .u8) (w0 := w12) w12.heap.size 5 ?hg (N := 44) ?hd (xs := []) (inner := []) (ok := fun _ => True) (okp := fun _ => True) ?hr ?hp (fun _ hk => hk) trivial ?hB ?hS (by simp) ?_; (case hd => rfl); (case hg => rfl); (case hr => first | (go_simp; done) | (go_simp; rfl)); (case hp => exact (Reps.none _ _)); (case hB => exact (by repeat (first | (with_reducible first | exact HL.out | apply below_alloc | apply pw_below_drewN | apply below_drew1) | exact HL.out))); (case hS => exact (below_size (by repeat (first | (with_reducible first | exact HL.out | apply below_alloc | apply pw_below_drewN | apply below_drew1) | exact HL.out)))); intro v13 w13 ho hb hg hat; have n0_ := Aside0.mk (hb); have n1_ := Aside0.mk (ho); clear HL; have HL := n0_; have HO13 := n1_; clear n0_ n1_; clear ho hb hg hat)
    | ((with_reducible refine gate_builtin (b := .append) (xs := #[.tmp 44, .tmp 45]) rfl ?_); at_builtin; refine Kd.R_append_rows (Kd.int .u8) (w0 := w12) w12.heap.size rfl (.tmp 44) (.tmp 45) 22 5 (.int .u8 0) 1 rfl Try.underlying22 info_u8 rfl (by decide) (by omega) v13 [] lb _ _ _ (fun _ => True) (fun _ => False) rfl rfl ?aO ?aR (fun _ _ h => h) (fun _ h => h.elim) ?aF ?aB ?aS ?aL ?_; (case aR => exact (by repeat (first | exact (Kd.C_below HLB.out HL.out) | (with_reducible refine Kd.C_alloc ?_ _) | (with_reducible refine Kd.C_drewN ?_ _) | (with_reducible refine Kd.C_drew ?_)))); (case aB => exact (by repeat (first | (with_reducible first | exact HL.out | apply below_alloc | apply pw_below_drewN | apply below_drew1) | exact HL.out))); (case aF => exact (fun _ _ => trivial)); (case aO => exact (by (with_reducible repeat (first | apply Kd.R_alloc | apply Kd.R_drewN | apply Kd.R_drew)); exact HO13.out)); (case aS => exact (below_size (by repeat (first | (with_reducible first | exact HL.out | apply below_alloc | apply pw_below_drewN | apply below_drew1) | exact HL.out)))); (case aL => simp only [List.length_nil]; omega); intro v14 w14 ho hb hg hat; have n0_ := Aside0.mk (hb); have n1_ := Aside0.mk (ho); clear HL; clear HO13; have HL := n0_; have HO14 := n1_; clear n0_ n1_; clear ho hb hg hat; obtain ⟨A7, c7, e7, hc7, hC7⟩ := Kd.R_reads HO14.out; subst e7; have HC7 := Aside0.mk (by rw [List.nil_append] at hC7; exact hC7 : Kd.C (Kd.int .u8) w14 A7 lb.length lb); have HK7 := Aside0.mk (by rw [List.nil_append] at hc7; exact hc7 : lb.length ≤ c7); clear hC7 hc7; try rw [List.nil_append]))
  refine (all_calls A7 c7 lb _ HC7.out HK7.out HBZ0.out (by omega) m r2 HQ.out).mono ?_
  rintro e w15 ⟨vm, rfl, hS, hb⟩
  have HL15 := Aside0.mk (below_step ((by repeat (first | (with_reducible first | exact HL.out | apply below_alloc | apply pw_below_drewN | apply below_drew1) | exact HL.out)) : Below w12.heap.size w12 _) hb)
  have HS1 := Aside0.mk hS
  have n1_ := Aside0.mk (HE11.out.below HL15.out)
  have n2_ := Aside0.mk (HC1.out.below HL15.out)
  have n3_ := Aside0.mk (HI11.out.below HL15.out)
  have n4_ := Aside0.mk (HY11.out.below HL15.out)
  have n5_ := Aside0.mk (below_then HB11.out HB11.out.size HL15.out)
  clear HL HL15 HLB HO14 HC7 HK7 hS hb HE11 HC1 HI11 HY11 HB11
  obtain ⟨Am, cm, em⟩ := Kd.S_slice HS1.out
  subst em
  have HLB := Aside0.mk (Kd.C_below HLB0.out n5_.out)
  go_wp2_with fail
  refine (refAll_calls A0 cap0 lb w15 HLB.out hcap0 HBZ0.out (by omega) m r2 HQ.out).mono ?_
  rintro e w16 ⟨vn, rfl, hS, hb⟩
  have HS2 := Aside0.mk hS
  have HS1b := Aside0.mk (Kd.S_below HS1.out hb)
  have HEX := Aside0.mk (n1_.out.below hb)
  have HEC := Aside0.mk (n2_.out.below hb)
  have HI := Aside0.mk (n3_.out.below hb)
  have HY := Aside0.mk (n4_.out.below hb)
  have HB := Aside0.mk (below_step n5_.out hb)
  clear n1_ n2_ n3_ n4_ n5_ hS hb HS1 HLB
  obtain ⟨An, cn, en⟩ := Kd.S_slice HS2.out
  subst en
  have he0 := blk_cell HEX.out.hE 0
  have he1 := blk_cell HEX.out.hE 1
  have he2 := blk_cell HEX.out.hE 2
  have he3 := blk_cell HEX.out.hE 3
  have hf0 := blk_cell HEC.out.hE 0
  have hf1 := blk_cell HEC.out.hE 1
  have hf2 := blk_cell HEC.out.hE 2
  have hf3 := blk_cell HEC.out.hE 3
  go_wp2_with fail
  have HXL : Aside0 (x.f2.length ≤ 9223372036854775807 ∧ x.f3.length ≤ 9223372036854775807) := ⟨by
    rcases takeE_code lb false with h | h
    · rw [HX.out] at h
      have h0 := takeE_good HBZ0.out (by rw [HX.out, show c = 0 from h] : takeE lb false = (x, 0, l', b'))
      have h6 := h0.2.2.1.ht6
      have h4 := h0.2.2.1.hf4
      omega
    · rw [HX.out] at h
      have h2 : x = z26 := h.2
      rw [h2]; exact ⟨Nat.zero_le _, Nat.zero_le _⟩⟩
  have HMK : Aside0 (∀ y ∈ m, OkX y) := ⟨by
    rcases takeAll_code (lb.length + 1) lb [] with h | h
    · rw [HQ.out] at h
      obtain ⟨gg, e1, e2, _⟩ := takeAll_good (lb.length + 1) lb [] m HBZ0.out (Nat.lt_succ_self _) (by rw [HQ.out]; exact Prod.ext rfl h)
      rw [e1, List.nil_append]; exact e2
    · rw [HQ.out] at h
      have h2 : m = [] := congrArg (·.1) h
      rw [h2]; intro y hy; simp at hy⟩
  have hsg : registrarref04_SameG.f x.f0 x.f1 x.f2 x.f3 x.f0 x.f1 x.f2 x.f3 = some true := by
    have e : eqEv x.f0 x.f1 x.f2 x.f3 x.f0 x.f1 x.f2 x.f3 = true := eqEv_iff.2 ⟨rfl, rfl, rfl, rfl⟩
    rw [← e]
    exact if_pos ⟨HXL.out.1, HXL.out.2⟩
  refine (registrarref04_SameG.calls x.f0 x.f1 A2 c2 x.f2 A3 c3 x.f3 x.f0 x.f1 A5 c5 x.f2 A6 c6 x.f3 true w16 (Kd.R_reads' HEX.out.r2).2.2 (Kd.R_reads' HEX.out.r2).2.1 (Kd.R_reads' HEX.out.r3).2.2 (Kd.R_reads' HEX.out.r3).2.1 (Kd.R_reads' HEC.out.r2).2.2 (Kd.R_reads' HEC.out.r2).2.1 (Kd.R_reads' HEC.out.r3).2.2 (Kd.R_reads' HEC.out.r3).2.1 hsg).mono ?_
  rintro e w17 ⟨rfl, hb⟩
  have HS1 := Aside0.mk (Kd.S_below HS1b.out hb)
  have HS2b := Aside0.mk (Kd.S_below HS2.out hb)
  have n3_ := Aside0.mk (HI.out.below hb)
  have n4_ := Aside0.mk (HY.out.below hb)
  have n5_ := Aside0.mk (below_step HB.out hb)
  clear he0 he1 he2 he3 hf0 hf1 hf2 hf3 HS1b HS2 HEX HEC HI HY HB hb hsg
  have HI := n3_
  have HY := n4_
  have HB := n5_
  clear n3_ n4_ n5_
  go_wp2_with fail
  obtain ⟨A', c', e_, hcl, hC⟩ := Kd.S_reads HS1.out
  simp only [Value.slice.injEq] at e_
  obtain ⟨rfl, -, rfl⟩ := e_
  obtain ⟨A'', c'', e_, hcl2, hC2⟩ := Kd.S_reads HS2b.out
  simp only [Value.slice.injEq] at e_
  obtain ⟨rfl, -, rfl⟩ := e_
  refine (registrarref04_SameAllG.calls Am cm m An cn m true w17 hC hcl hC2 hcl2 (sameAll_ok m (Kd.C_max hC) HMK.out)).mono ?_
  rintro e w18 ⟨rfl, hb⟩
  have n3_ := Aside0.mk (HI.out.below hb)
  have n4_ := Aside0.mk (HY.out.below hb)
  have n5_ := Aside0.mk (below_step HB.out hb)
  clear HI HY HB hb hC hcl hC2 hcl2 HS1 HS2b HMK HXL
  have HI := n3_
  have HY := n4_
  have HB := n5_
  clear n3_ n4_ n5_
  go_wp2_with fail
  have RX := HI
  have HBB := HB
  clear HI HB HG
  by_cases hc0 : c = 0
  · obtain ⟨rfl, rfl⟩ := HEQ.out hc0
    have hbn : (c != 0) = false := bne_eq_false_iff_eq.mpr hc0
    obtain ⟨Ay, cy, hyb, _⟩ := HY.out
    have CY0 := Aside0.mk (show w18.cell? ⟨g2, 0, none⟩ = some (.slice Ay l2.length cy) from (blk_cell hyb 0).trans rfl)
    clear hyb HEQ hc0 HY
    refine start_ (n := 32) (S := fun w' => True) (ds := []) #[false, false, false, false, false, false, false, false, false, false, false, false, false, false, false, false, false, false, false, false, false, false, false, false, false, false, false, false, false, false, false, false] (by kernel_rfl) rfl rfl trivial (fun hHeld => ?_); refine with_tabW D6.tab14 D6.bits14 (fun HT_ HW_ => ?_)
    refine inv_at [0, 1, 2, 3, 4, 5, 6, 7, 8, 9, 10, 11, 12, 13, 14, 15, 16, 17, 18, 19, 20, 21, 22, 23, 24, 25, 26, 27, 28, 29, 30, 31] (fun a0_ b a w' => a = putSel a0_ b [(0, 61, .bool true), (1, 62, .bool true), (2, 63, .bool true), (3, 64, .bool true), (4, 65, .bool true), (5, 66, .int .i64 c), (6, 67, .int .i64 c), (7, 68, .bool true), (8, 69, .bool true), (9, 70, .bool true), (10, 71, .int .i64 c), (11, 72, .bool false), (12, 73, .bool false), (13, 74, .pointer (some ⟨g, 0, none⟩)), (14, 75, .int .i64 (l2.length : Int)), (15, 76, .pointer (some ⟨g2, 0, none⟩)), (16, 77, .pointer (some ⟨g2, 0, none⟩)), (17, 78, .pointer (some ⟨g2, 0, none⟩)), (18, 79, .slice Ay l2.length cy), (19, 80, .int .i64 (l2.length : Int)), (20, 81, .bool true), (21, 82, .bool true), (22, 83, .bool true), (23, 84, .bool true), (24, 85, .bool true), (25, 86, .bool true), (26, 87, .bool true), (27, 88, .int .i64 r2), (28, 89, .int .i64 r2), (29, 90, .bool true), (30, 91, .bool true), (31, 2, .bool true)] ∧ (Below w.heap.size w w') ∧ (Rd 60 (fun k => k < w2.heap.size) w' g l2 b2) ∧ (w'.cell? ⟨g2, 0, none⟩ = some (.slice Ay l2.length cy))) HT_.out HW_.out (by kernel_rfl) (by kernel_rfl) ?_ ?_ ?_
    · exact ⟨by simp only [putSel, Bool.false_eq_true, if_false], (by repeat (first | (with_reducible first | exact HBB.out | apply below_alloc | apply pw_below_drewN | apply below_drew1) | exact HBB.out)), (by repeat (first | exact RX.out | (with_reducible first | refine Rd.drewN ?_ _ | refine Rd.drew ?_ | refine Rd.alloc ?_ _))), CY0.out⟩
    · clear HT_ HW_ hHeld
      clear CY0 HBB RX
      refine steps_cons ?_ ?_
      · intro b a w' hI_ hb_ hon hoff
        refine ⟨_, rfl, fun K hK => ?_⟩
        obtain ⟨ha, Q_HBB, Q_RX, Q_CY0⟩ := hI_
        have e3 : a.tmps[3]? = some (.bool true) := by rw [ha]; exact (putSel_off rfl).trans rfl
        replace ha := Aside0.mk ha
        have HBB := Aside0.mk Q_HBB
        have RX := Aside0.mk Q_RX
        have CY0 := Aside0.mk Q_CY0
        refine value_ (w1 := w') (v := .bool true) (by rfl) rfl ?_ ?_
        · go_simp
          (try simp only [i64_w])
          try (first | rfl | assumption)
        refine hK.out _ _ ⟨(by rw [ha.out]; exact putSel_upk 0 hb_ rfl rfl rfl), Q_HBB, Q_RX, Q_CY0⟩
      refine steps_cons ?_ ?_
      · intro b a w' hI_ hb_ hon hoff
        refine ⟨_, rfl, fun K hK => ?_⟩
        obtain ⟨ha, Q_HBB, Q_RX, Q_CY0⟩ := hI_
        have e61 : a.tmps[61]? = some (.bool true) := by rw [ha]; exact putSel_on (e := (0, 61, .bool true)) 0 rfl rfl (hon 0 (by kernel_rfl)) rfl
        replace ha := Aside0.mk ha
        have HBB := Aside0.mk Q_HBB
        have RX := Aside0.mk Q_RX
        have CY0 := Aside0.mk Q_CY0
        refine value_ (w1 := w') (v := .bool true) (by rfl) rfl ?_ ?_
        · go_simp
          (try simp only [i64_w])
          try (first | rfl | assumption)
        refine hK.out _ _ ⟨(by rw [ha.out]; exact putSel_upk 1 hb_ rfl rfl rfl), Q_HBB, Q_RX, Q_CY0⟩
      refine steps_cons ?_ ?_
      · intro b a w' hI_ hb_ hon hoff
        refine ⟨_, rfl, fun K hK => ?_⟩
        obtain ⟨ha, Q_HBB, Q_RX, Q_CY0⟩ := hI_
        have e14 : a.tmps[14]? = some (.bool true) := by rw [ha]; exact (putSel_off rfl).trans rfl
        have e62 : a.tmps[62]? = some (.bool true) := by rw [ha]; exact putSel_on (e := (1, 62, .bool true)) 1 rfl rfl (hon 1 (by kernel_rfl)) rfl
        replace ha := Aside0.mk ha
        have HBB := Aside0.mk Q_HBB
        have RX := Aside0.mk Q_RX
        have CY0 := Aside0.mk Q_CY0
        refine value_ (w1 := w') (v := .bool true) (wanted_on rfl rfl rfl (e62.trans (by first | rfl | (simp [*]; done)))) rfl ?_ ?_
        · go_simp
          (try simp only [i64_w])
          try (first | rfl | assumption)
        refine hK.out _ _ ⟨(by rw [ha.out]; exact putSel_upk 2 hb_ rfl rfl rfl), Q_HBB, Q_RX, Q_CY0⟩
      refine steps_cons ?_ ?_
      · intro b a w' hI_ hb_ hon hoff
        refine ⟨_, rfl, fun K hK => ?_⟩
        obtain ⟨ha, Q_HBB, Q_RX, Q_CY0⟩ := hI_
        have e62 : a.tmps[62]? = some (.bool true) := by rw [ha]; exact putSel_on (e := (1, 62, .bool true)) 1 rfl rfl (hon 1 (by kernel_rfl)) rfl
        have e63 : a.tmps[63]? = some (.bool true) := by rw [ha]; exact putSel_on (e := (2, 63, .bool true)) 2 rfl rfl (hon 2 (by kernel_rfl)) rfl
        replace ha := Aside0.mk ha
        have HBB := Aside0.mk Q_HBB
        have RX := Aside0.mk Q_RX
        have CY0 := Aside0.mk Q_CY0
        refine value_ (w1 := w') (v := .bool true) (by rfl) rfl ?_ ?_
        · go_simp
          (try simp only [i64_w])
          try (first | rfl | assumption)
        refine hK.out _ _ ⟨(by rw [ha.out]; exact putSel_upk 3 hb_ rfl rfl rfl), Q_HBB, Q_RX, Q_CY0⟩
      refine steps_cons ?_ ?_
      · intro b a w' hI_ hb_ hon hoff
        refine ⟨_, rfl, fun K hK => ?_⟩
        obtain ⟨ha, Q_HBB, Q_RX, Q_CY0⟩ := hI_
        have e64 : a.tmps[64]? = some (.bool true) := by rw [ha]; exact putSel_on (e := (3, 64, .bool true)) 3 rfl rfl (hon 3 (by kernel_rfl)) rfl
        replace ha := Aside0.mk ha
        have HBB := Aside0.mk Q_HBB
        have RX := Aside0.mk Q_RX
        have CY0 := Aside0.mk Q_CY0
        refine value_ (w1 := w') (v := .bool true) (by rfl) rfl ?_ ?_
        · go_simp
          (try simp only [i64_w])
          try (first | rfl | assumption)
        refine hK.out _ _ ⟨(by rw [ha.out]; exact putSel_upk 4 hb_ rfl rfl rfl), Q_HBB, Q_RX, Q_CY0⟩
      refine steps_cons ?_ ?_
      · intro b a w' hI_ hb_ hon hoff
        refine ⟨_, rfl, fun K hK => ?_⟩
        obtain ⟨ha, Q_HBB, Q_RX, Q_CY0⟩ := hI_
        have e6 : a.tmps[6]? = some (.int .i64 c) := by rw [ha]; exact (putSel_off rfl).trans rfl
        have e65 : a.tmps[65]? = some (.bool true) := by rw [ha]; exact putSel_on (e := (4, 65, .bool true)) 4 rfl rfl (hon 4 (by kernel_rfl)) rfl
        replace ha := Aside0.mk ha
        have HBB := Aside0.mk Q_HBB
        have RX := Aside0.mk Q_RX
        have CY0 := Aside0.mk Q_CY0
        refine value_ (w1 := w') (v := .int .i64 c) (wanted_on rfl rfl rfl (e65.trans (by first | rfl | (simp [*]; done)))) rfl ?_ ?_
        · go_simp
          (try simp only [i64_w])
          try (first | rfl | assumption)
        refine hK.out _ _ ⟨(by rw [ha.out]; exact putSel_upk 5 hb_ rfl rfl rfl), Q_HBB, Q_RX, Q_CY0⟩
      refine steps_cons ?_ ?_
      · intro b a w' hI_ hb_ hon hoff
        refine ⟨_, rfl, fun K hK => ?_⟩
        obtain ⟨ha, Q_HBB, Q_RX, Q_CY0⟩ := hI_
        have e9 : a.tmps[9]? = some (.int .i64 c) := by rw [ha]; exact (putSel_off rfl).trans rfl
        have e65 : a.tmps[65]? = some (.bool true) := by rw [ha]; exact putSel_on (e := (4, 65, .bool true)) 4 rfl rfl (hon 4 (by kernel_rfl)) rfl
        replace ha := Aside0.mk ha
        have HBB := Aside0.mk Q_HBB
        have RX := Aside0.mk Q_RX
        have CY0 := Aside0.mk Q_CY0
        refine value_ (w1 := w') (v := .int .i64 c) (wanted_on rfl rfl rfl (e65.trans (by first | rfl | (simp [*]; done)))) rfl ?_ ?_
        · go_simp
          (try simp only [i64_w])
          try (first | rfl | assumption)
        refine hK.out _ _ ⟨(by rw [ha.out]; exact putSel_upk 6 hb_ rfl rfl rfl), Q_HBB, Q_RX, Q_CY0⟩
      refine steps_cons ?_ ?_
      · intro b a w' hI_ hb_ hon hoff
        refine ⟨_, rfl, fun K hK => ?_⟩
        obtain ⟨ha, Q_HBB, Q_RX, Q_CY0⟩ := hI_
        have e66 : a.tmps[66]? = some (.int .i64 c) := by rw [ha]; exact putSel_on (e := (5, 66, .int .i64 c)) 5 rfl rfl (hon 5 (by kernel_rfl)) rfl
        have e67 : a.tmps[67]? = some (.int .i64 c) := by rw [ha]; exact putSel_on (e := (6, 67, .int .i64 c)) 6 rfl rfl (hon 6 (by kernel_rfl)) rfl
        have e65 : a.tmps[65]? = some (.bool true) := by rw [ha]; exact putSel_on (e := (4, 65, .bool true)) 4 rfl rfl (hon 4 (by kernel_rfl)) rfl
        replace ha := Aside0.mk ha
        have HBB := Aside0.mk Q_HBB
        have RX := Aside0.mk Q_RX
        have CY0 := Aside0.mk Q_CY0
        refine value_ (w1 := w') (v := .bool true) (wanted_on rfl rfl rfl (e65.trans (by first | rfl | (simp [*]; done)))) rfl ?_ ?_
        · go_simp
          (try simp only [i64_w])
          try (first | rfl | assumption)
        refine hK.out _ _ ⟨(by rw [ha.out]; exact putSel_upk 7 hb_ rfl rfl rfl), Q_HBB, Q_RX, Q_CY0⟩
      refine steps_cons ?_ ?_
      · intro b a w' hI_ hb_ hon hoff
        refine ⟨_, rfl, fun K hK => ?_⟩
        obtain ⟨ha, Q_HBB, Q_RX, Q_CY0⟩ := hI_
        have e65 : a.tmps[65]? = some (.bool true) := by rw [ha]; exact putSel_on (e := (4, 65, .bool true)) 4 rfl rfl (hon 4 (by kernel_rfl)) rfl
        have e68 : a.tmps[68]? = some (.bool true) := by rw [ha]; exact putSel_on (e := (7, 68, .bool true)) 7 rfl rfl (hon 7 (by kernel_rfl)) rfl
        replace ha := Aside0.mk ha
        have HBB := Aside0.mk Q_HBB
        have RX := Aside0.mk Q_RX
        have CY0 := Aside0.mk Q_CY0
        refine value_ (w1 := w') (v := .bool true) (by rfl) rfl ?_ ?_
        · go_simp
          (try simp only [i64_w])
          try (first | rfl | assumption)
        refine hK.out _ _ ⟨(by rw [ha.out]; exact putSel_upk 8 hb_ rfl rfl rfl), Q_HBB, Q_RX, Q_CY0⟩
      refine steps_cons ?_ ?_
      · intro b a w' hI_ hb_ hon hoff
        refine ⟨_, rfl, fun K hK => ?_⟩
        obtain ⟨ha, Q_HBB, Q_RX, Q_CY0⟩ := hI_
        have e69 : a.tmps[69]? = some (.bool true) := by rw [ha]; exact putSel_on (e := (8, 69, .bool true)) 8 rfl rfl (hon 8 (by kernel_rfl)) rfl
        replace ha := Aside0.mk ha
        have HBB := Aside0.mk Q_HBB
        have RX := Aside0.mk Q_RX
        have CY0 := Aside0.mk Q_CY0
        refine value_ (w1 := w') (v := .bool true) (by rfl) rfl ?_ ?_
        · go_simp
          (try simp only [i64_w])
          try (first | rfl | assumption)
        refine hK.out _ _ ⟨(by rw [ha.out]; exact putSel_upk 9 hb_ rfl rfl rfl), Q_HBB, Q_RX, Q_CY0⟩
      refine steps_cons ?_ ?_
      · intro b a w' hI_ hb_ hon hoff
        refine ⟨_, rfl, fun K hK => ?_⟩
        obtain ⟨ha, Q_HBB, Q_RX, Q_CY0⟩ := hI_
        have e6 : a.tmps[6]? = some (.int .i64 c) := by rw [ha]; exact (putSel_off rfl).trans rfl
        have e70 : a.tmps[70]? = some (.bool true) := by rw [ha]; exact putSel_on (e := (9, 70, .bool true)) 9 rfl rfl (hon 9 (by kernel_rfl)) rfl
        replace ha := Aside0.mk ha
        have HBB := Aside0.mk Q_HBB
        have RX := Aside0.mk Q_RX
        have CY0 := Aside0.mk Q_CY0
        refine value_ (w1 := w') (v := .int .i64 c) (wanted_on rfl rfl rfl (e70.trans (by first | rfl | (simp [*]; done)))) rfl ?_ ?_
        · go_simp
          (try simp only [i64_w])
          try (first | rfl | assumption)
        refine hK.out _ _ ⟨(by rw [ha.out]; exact putSel_upk 10 hb_ rfl rfl rfl), Q_HBB, Q_RX, Q_CY0⟩
      refine steps_cons ?_ ?_
      · intro b a w' hI_ hb_ hon hoff
        refine ⟨_, rfl, fun K hK => ?_⟩
        obtain ⟨ha, Q_HBB, Q_RX, Q_CY0⟩ := hI_
        have e71 : a.tmps[71]? = some (.int .i64 c) := by rw [ha]; exact putSel_on (e := (10, 71, .int .i64 c)) 10 rfl rfl (hon 10 (by kernel_rfl)) rfl
        have e70 : a.tmps[70]? = some (.bool true) := by rw [ha]; exact putSel_on (e := (9, 70, .bool true)) 9 rfl rfl (hon 9 (by kernel_rfl)) rfl
        replace ha := Aside0.mk ha
        have HBB := Aside0.mk Q_HBB
        have RX := Aside0.mk Q_RX
        have CY0 := Aside0.mk Q_CY0
        refine value_ (w1 := w') (v := .bool false) (wanted_on rfl rfl rfl (e70.trans (by first | rfl | (simp [*]; done)))) rfl ?_ ?_
        · go_simp
          (try simp only [i64_w])
          try (first | rfl | assumption)
        refine hK.out _ _ ⟨(by rw [ha.out]; exact putSel_upk 11 hb_ rfl rfl rfl), Q_HBB, Q_RX, Q_CY0⟩
      refine steps_cons ?_ ?_
      · intro b a w' hI_ hb_ hon hoff
        refine ⟨_, rfl, fun K hK => ?_⟩
        obtain ⟨ha, Q_HBB, Q_RX, Q_CY0⟩ := hI_
        have e72 : a.tmps[72]? = some (.bool false) := by rw [ha]; exact putSel_on (e := (11, 72, .bool false)) 11 rfl rfl (hon 11 (by kernel_rfl)) rfl
        have e70 : a.tmps[70]? = some (.bool true) := by rw [ha]; exact putSel_on (e := (9, 70, .bool true)) 9 rfl rfl (hon 9 (by kernel_rfl)) rfl
        replace ha := Aside0.mk ha
        have HBB := Aside0.mk Q_HBB
        have RX := Aside0.mk Q_RX
        have CY0 := Aside0.mk Q_CY0
        refine value_ (w1 := w') (v := .bool false) (wanted_on rfl rfl rfl (e70.trans (by first | rfl | (simp [*]; done)))) rfl ?_ ?_
        · go_simp
          (try simp only [i64_w])
          try (first | rfl | assumption)
        refine hK.out _ _ ⟨(by rw [ha.out]; exact putSel_upk 12 hb_ rfl rfl rfl), Q_HBB, Q_RX, Q_CY0⟩
      refine steps_cons ?_ ?_
      · intro b a w' hI_ hb_ hon hoff
        refine ⟨_, rfl, fun K hK => ?_⟩
        obtain ⟨ha, Q_HBB, Q_RX, Q_CY0⟩ := hI_
        have e4 : a.tmps[4]? = some (.pointer (some ⟨g, 0, none⟩)) := by rw [ha]; exact (putSel_off rfl).trans rfl
        have e73 : a.tmps[73]? = some (.bool false) := by rw [ha]; exact putSel_on (e := (12, 73, .bool false)) 12 rfl rfl (hon 12 (by kernel_rfl)) rfl
        replace ha := Aside0.mk ha
        have HBB := Aside0.mk Q_HBB
        have RX := Aside0.mk Q_RX
        have CY0 := Aside0.mk Q_CY0
        refine value_ (w1 := w') (v := .pointer (some ⟨g, 0, none⟩)) (wanted_on rfl rfl rfl (e73.trans (by first | rfl | (simp [*]; done)))) rfl ?_ ?_
        · go_simp
          (try simp only [i64_w])
          try (first | rfl | assumption)
        refine hK.out _ _ ⟨(by rw [ha.out]; exact putSel_upk 13 hb_ rfl rfl rfl), Q_HBB, Q_RX, Q_CY0⟩
      refine steps_cons ?_ ?_
      · intro b a w' hI_ hb_ hon hoff
        refine ⟨_, rfl, fun K hK => ?_⟩
        obtain ⟨ha, Q_HBB, Q_RX, Q_CY0⟩ := hI_
        have e74 : a.tmps[74]? = some (.pointer (some ⟨g, 0, none⟩)) := by rw [ha]; exact putSel_on (e := (13, 74, .pointer (some ⟨g, 0, none⟩))) 13 rfl rfl (hon 13 (by kernel_rfl)) rfl
        have e73 : a.tmps[73]? = some (.bool false) := by rw [ha]; exact putSel_on (e := (12, 73, .bool false)) 12 rfl rfl (hon 12 (by kernel_rfl)) rfl
        replace ha := Aside0.mk ha
        have HBB := Aside0.mk Q_HBB
        have RX := Aside0.mk Q_RX
        have CY0 := Aside0.mk Q_CY0
        refine goes_ Try.func21 (by kernel_rfl) rfl #[.pointer (some ⟨g, 0, none⟩)] (wanted_on rfl rfl rfl (e73.trans (by first | rfl | (simp [*]; done)))) rfl rfl (by first | (simp only [List.map_toArray, List.map_cons, List.map_nil, Act.eval, Array.getD_eq_getD_getElem?, Option.getD_some, e74, e73]; done) | (simp only [List.map_toArray, List.map_cons, List.map_nil, Act.eval, Array.getD_eq_getD_getElem?, Option.getD_some, e74, e73]; rfl)) ?_
        with_reducible refine (left_calls _ _ g l2 b2 RX.out).mono ?_
        rintro e w3 ⟨rfl, rfl⟩
        refine ⟨_, rfl, ?_⟩
        refine hK.out _ _ ⟨(by rw [ha.out]; exact putSel_upk 14 hb_ rfl rfl rfl), HBB.out, RX.out, CY0.out⟩
      refine steps_cons ?_ ?_
      · intro b a w' hI_ hb_ hon hoff
        refine ⟨_, rfl, fun K hK => ?_⟩
        obtain ⟨ha, Q_HBB, Q_RX, Q_CY0⟩ := hI_
        have e7 : a.tmps[7]? = some (.pointer (some ⟨g2, 0, none⟩)) := by rw [ha]; exact (putSel_off rfl).trans rfl
        have e73 : a.tmps[73]? = some (.bool false) := by rw [ha]; exact putSel_on (e := (12, 73, .bool false)) 12 rfl rfl (hon 12 (by kernel_rfl)) rfl
        replace ha := Aside0.mk ha
        have HBB := Aside0.mk Q_HBB
        have RX := Aside0.mk Q_RX
        have CY0 := Aside0.mk Q_CY0
        refine value_ (w1 := w') (v := .pointer (some ⟨g2, 0, none⟩)) (wanted_on rfl rfl rfl (e73.trans (by first | rfl | (simp [*]; done)))) rfl ?_ ?_
        · go_simp
          (try simp only [i64_w])
          try (first | rfl | assumption)
        refine hK.out _ _ ⟨(by rw [ha.out]; exact putSel_upk 15 hb_ rfl rfl rfl), Q_HBB, Q_RX, Q_CY0⟩
      refine steps_cons ?_ ?_
      · intro b a w' hI_ hb_ hon hoff
        refine ⟨_, rfl, fun K hK => ?_⟩
        obtain ⟨ha, Q_HBB, Q_RX, Q_CY0⟩ := hI_
        have e76 : a.tmps[76]? = some (.pointer (some ⟨g2, 0, none⟩)) := by rw [ha]; exact putSel_on (e := (15, 76, .pointer (some ⟨g2, 0, none⟩))) 15 rfl rfl (hon 15 (by kernel_rfl)) rfl
        have e73 : a.tmps[73]? = some (.bool false) := by rw [ha]; exact putSel_on (e := (12, 73, .bool false)) 12 rfl rfl (hon 12 (by kernel_rfl)) rfl
        replace ha := Aside0.mk ha
        have HBB := Aside0.mk Q_HBB
        have RX := Aside0.mk Q_RX
        have CY0 := Aside0.mk Q_CY0
        refine value_ (w1 := w') (v := .pointer (some ⟨g2, 0, none⟩)) (wanted_on rfl rfl rfl (e73.trans (by first | rfl | (simp [*]; done)))) rfl ?_ ?_
        · go_simp
          (try simp only [i64_w])
          try (first | rfl | assumption)
        refine hK.out _ _ ⟨(by rw [ha.out]; exact putSel_upk 16 hb_ rfl rfl rfl), Q_HBB, Q_RX, Q_CY0⟩
      refine steps_cons ?_ ?_
      · intro b a w' hI_ hb_ hon hoff
        refine ⟨_, rfl, fun K hK => ?_⟩
        obtain ⟨ha, Q_HBB, Q_RX, Q_CY0⟩ := hI_
        have e77 : a.tmps[77]? = some (.pointer (some ⟨g2, 0, none⟩)) := by rw [ha]; exact putSel_on (e := (16, 77, .pointer (some ⟨g2, 0, none⟩))) 16 rfl rfl (hon 16 (by kernel_rfl)) rfl
        have e73 : a.tmps[73]? = some (.bool false) := by rw [ha]; exact putSel_on (e := (12, 73, .bool false)) 12 rfl rfl (hon 12 (by kernel_rfl)) rfl
        replace ha := Aside0.mk ha
        have HBB := Aside0.mk Q_HBB
        have RX := Aside0.mk Q_RX
        have CY0 := Aside0.mk Q_CY0
        refine value_ (w1 := w') (v := .pointer (some ⟨g2, 0, none⟩)) (wanted_on rfl rfl rfl (e73.trans (by first | rfl | (simp [*]; done)))) rfl ?_ ?_
        · go_simp
          (try simp only [i64_w])
          try (first | rfl | assumption)
        refine hK.out _ _ ⟨(by rw [ha.out]; exact putSel_upk 17 hb_ rfl rfl rfl), Q_HBB, Q_RX, Q_CY0⟩
      refine steps_cons ?_ ?_
      · intro b a w' hI_ hb_ hon hoff
        refine ⟨_, rfl, fun K hK => ?_⟩
        obtain ⟨ha, Q_HBB, Q_RX, Q_CY0⟩ := hI_
        have e78 : a.tmps[78]? = some (.pointer (some ⟨g2, 0, none⟩)) := by rw [ha]; exact putSel_on (e := (17, 78, .pointer (some ⟨g2, 0, none⟩))) 17 rfl rfl (hon 17 (by kernel_rfl)) rfl
        have e73 : a.tmps[73]? = some (.bool false) := by rw [ha]; exact putSel_on (e := (12, 73, .bool false)) 12 rfl rfl (hon 12 (by kernel_rfl)) rfl
        replace ha := Aside0.mk ha
        have HBB := Aside0.mk Q_HBB
        have RX := Aside0.mk Q_RX
        have CY0 := Aside0.mk Q_CY0
        have hcell := CY0.out
        refine value_ (w1 := w') (v := .slice Ay l2.length cy) (wanted_on rfl rfl rfl (e73.trans (by first | rfl | (simp [*]; done)))) rfl ?_ ?_
        · go_simp
          (try simp only [i64_w])
          try (first | rfl | assumption)
        refine hK.out _ _ ⟨(by rw [ha.out]; exact putSel_upk 18 hb_ rfl rfl rfl), Q_HBB, Q_RX, Q_CY0⟩
      refine steps_cons ?_ ?_
      · intro b a w' hI_ hb_ hon hoff
        refine ⟨_, rfl, fun K hK => ?_⟩
        obtain ⟨ha, Q_HBB, Q_RX, Q_CY0⟩ := hI_
        have e79 : a.tmps[79]? = some (.slice Ay l2.length cy) := by rw [ha]; exact putSel_on (e := (18, 79, .slice Ay l2.length cy)) 18 rfl rfl (hon 18 (by kernel_rfl)) rfl
        have e73 : a.tmps[73]? = some (.bool false) := by rw [ha]; exact putSel_on (e := (12, 73, .bool false)) 12 rfl rfl (hon 12 (by kernel_rfl)) rfl
        replace ha := Aside0.mk ha
        have HBB := Aside0.mk Q_HBB
        have RX := Aside0.mk Q_RX
        have CY0 := Aside0.mk Q_CY0
        refine value_ (w1 := w') (v := .int .i64 (l2.length : Int)) (wanted_on rfl rfl rfl (e73.trans (by first | rfl | (simp [*]; done)))) rfl ?_ ?_
        · go_simp
          (try simp only [i64_w])
          try (first | rfl | assumption)
        refine hK.out _ _ ⟨(by rw [ha.out]; exact putSel_upk 19 hb_ rfl rfl rfl), Q_HBB, Q_RX, Q_CY0⟩
      refine steps_cons ?_ ?_
      · intro b a w' hI_ hb_ hon hoff
        refine ⟨_, rfl, fun K hK => ?_⟩
        obtain ⟨ha, Q_HBB, Q_RX, Q_CY0⟩ := hI_
        have e75 : a.tmps[75]? = some (.int .i64 (l2.length : Int)) := by rw [ha]; exact putSel_on (e := (14, 75, .int .i64 (l2.length : Int))) 14 rfl rfl (hon 14 (by kernel_rfl)) rfl
        have e80 : a.tmps[80]? = some (.int .i64 (l2.length : Int)) := by rw [ha]; exact putSel_on (e := (19, 80, .int .i64 (l2.length : Int))) 19 rfl rfl (hon 19 (by kernel_rfl)) rfl
        have e73 : a.tmps[73]? = some (.bool false) := by rw [ha]; exact putSel_on (e := (12, 73, .bool false)) 12 rfl rfl (hon 12 (by kernel_rfl)) rfl
        replace ha := Aside0.mk ha
        have HBB := Aside0.mk Q_HBB
        have RX := Aside0.mk Q_RX
        have CY0 := Aside0.mk Q_CY0
        refine value_ (w1 := w') (v := .bool true) (wanted_on rfl rfl rfl (e73.trans (by first | rfl | (simp [*]; done)))) rfl ?_ ?_
        · go_simp
          (try simp only [i64_w])
          try (first | rfl | assumption)
        refine hK.out _ _ ⟨(by rw [ha.out]; exact putSel_upk 20 hb_ rfl rfl rfl), Q_HBB, Q_RX, Q_CY0⟩
      refine steps_cons ?_ ?_
      · intro b a w' hI_ hb_ hon hoff
        refine ⟨_, rfl, fun K hK => ?_⟩
        obtain ⟨ha, Q_HBB, Q_RX, Q_CY0⟩ := hI_
        have e73 : a.tmps[73]? = some (.bool false) := by rw [ha]; exact putSel_on (e := (12, 73, .bool false)) 12 rfl rfl (hon 12 (by kernel_rfl)) rfl
        have e81 : a.tmps[81]? = some (.bool true) := by rw [ha]; exact putSel_on (e := (20, 81, .bool true)) 20 rfl rfl (hon 20 (by kernel_rfl)) rfl
        have e70 : a.tmps[70]? = some (.bool true) := by rw [ha]; exact putSel_on (e := (9, 70, .bool true)) 9 rfl rfl (hon 9 (by kernel_rfl)) rfl
        replace ha := Aside0.mk ha
        have HBB := Aside0.mk Q_HBB
        have RX := Aside0.mk Q_RX
        have CY0 := Aside0.mk Q_CY0
        refine value_ (w1 := w') (v := .bool true) (wanted_on rfl rfl rfl (e70.trans (by first | rfl | (simp [*]; done)))) rfl ?_ ?_
        · go_simp
          (try simp only [i64_w])
          try (first | rfl | assumption)
        refine hK.out _ _ ⟨(by rw [ha.out]; exact putSel_upk 21 hb_ rfl rfl rfl), Q_HBB, Q_RX, Q_CY0⟩
      refine steps_cons ?_ ?_
      · intro b a w' hI_ hb_ hon hoff
        refine ⟨_, rfl, fun K hK => ?_⟩
        obtain ⟨ha, Q_HBB, Q_RX, Q_CY0⟩ := hI_
        have e70 : a.tmps[70]? = some (.bool true) := by rw [ha]; exact putSel_on (e := (9, 70, .bool true)) 9 rfl rfl (hon 9 (by kernel_rfl)) rfl
        have e82 : a.tmps[82]? = some (.bool true) := by rw [ha]; exact putSel_on (e := (21, 82, .bool true)) 21 rfl rfl (hon 21 (by kernel_rfl)) rfl
        replace ha := Aside0.mk ha
        have HBB := Aside0.mk Q_HBB
        have RX := Aside0.mk Q_RX
        have CY0 := Aside0.mk Q_CY0
        refine value_ (w1 := w') (v := .bool true) (by rfl) rfl ?_ ?_
        · go_simp
          (try simp only [i64_w])
          try (first | rfl | assumption)
        refine hK.out _ _ ⟨(by rw [ha.out]; exact putSel_upk 22 hb_ rfl rfl rfl), Q_HBB, Q_RX, Q_CY0⟩
      refine steps_cons ?_ ?_
      · intro b a w' hI_ hb_ hon hoff
        refine ⟨_, rfl, fun K hK => ?_⟩
        obtain ⟨ha, Q_HBB, Q_RX, Q_CY0⟩ := hI_
        have e83 : a.tmps[83]? = some (.bool true) := by rw [ha]; exact putSel_on (e := (22, 83, .bool true)) 22 rfl rfl (hon 22 (by kernel_rfl)) rfl
        replace ha := Aside0.mk ha
        have HBB := Aside0.mk Q_HBB
        have RX := Aside0.mk Q_RX
        have CY0 := Aside0.mk Q_CY0
        refine value_ (w1 := w') (v := .bool true) (by rfl) rfl ?_ ?_
        · go_simp
          (try simp only [i64_w])
          try (first | rfl | assumption)
        refine hK.out _ _ ⟨(by rw [ha.out]; exact putSel_upk 23 hb_ rfl rfl rfl), Q_HBB, Q_RX, Q_CY0⟩
      refine steps_cons ?_ ?_
      · intro b a w' hI_ hb_ hon hoff
        refine ⟨_, rfl, fun K hK => ?_⟩
        obtain ⟨ha, Q_HBB, Q_RX, Q_CY0⟩ := hI_
        have e15 : a.tmps[15]? = some (.bool true) := by rw [ha]; exact (putSel_off rfl).trans rfl
        have e84 : a.tmps[84]? = some (.bool true) := by rw [ha]; exact putSel_on (e := (23, 84, .bool true)) 23 rfl rfl (hon 23 (by kernel_rfl)) rfl
        replace ha := Aside0.mk ha
        have HBB := Aside0.mk Q_HBB
        have RX := Aside0.mk Q_RX
        have CY0 := Aside0.mk Q_CY0
        refine value_ (w1 := w') (v := .bool true) (wanted_on rfl rfl rfl (e84.trans (by first | rfl | (simp [*]; done)))) rfl ?_ ?_
        · go_simp
          (try simp only [i64_w])
          try (first | rfl | assumption)
        refine hK.out _ _ ⟨(by rw [ha.out]; exact putSel_upk 24 hb_ rfl rfl rfl), Q_HBB, Q_RX, Q_CY0⟩
      refine steps_cons ?_ ?_
      · intro b a w' hI_ hb_ hon hoff
        refine ⟨_, rfl, fun K hK => ?_⟩
        obtain ⟨ha, Q_HBB, Q_RX, Q_CY0⟩ := hI_
        have e84 : a.tmps[84]? = some (.bool true) := by rw [ha]; exact putSel_on (e := (23, 84, .bool true)) 23 rfl rfl (hon 23 (by kernel_rfl)) rfl
        have e85 : a.tmps[85]? = some (.bool true) := by rw [ha]; exact putSel_on (e := (24, 85, .bool true)) 24 rfl rfl (hon 24 (by kernel_rfl)) rfl
        replace ha := Aside0.mk ha
        have HBB := Aside0.mk Q_HBB
        have RX := Aside0.mk Q_RX
        have CY0 := Aside0.mk Q_CY0
        refine value_ (w1 := w') (v := .bool true) (by rfl) rfl ?_ ?_
        · go_simp
          (try simp only [i64_w])
          try (first | rfl | assumption)
        refine hK.out _ _ ⟨(by rw [ha.out]; exact putSel_upk 25 hb_ rfl rfl rfl), Q_HBB, Q_RX, Q_CY0⟩
      refine steps_cons ?_ ?_
      · intro b a w' hI_ hb_ hon hoff
        refine ⟨_, rfl, fun K hK => ?_⟩
        obtain ⟨ha, Q_HBB, Q_RX, Q_CY0⟩ := hI_
        have e86 : a.tmps[86]? = some (.bool true) := by rw [ha]; exact putSel_on (e := (25, 86, .bool true)) 25 rfl rfl (hon 25 (by kernel_rfl)) rfl
        replace ha := Aside0.mk ha
        have HBB := Aside0.mk Q_HBB
        have RX := Aside0.mk Q_RX
        have CY0 := Aside0.mk Q_CY0
        refine value_ (w1 := w') (v := .bool true) (by rfl) rfl ?_ ?_
        · go_simp
          (try simp only [i64_w])
          try (first | rfl | assumption)
        refine hK.out _ _ ⟨(by rw [ha.out]; exact putSel_upk 26 hb_ rfl rfl rfl), Q_HBB, Q_RX, Q_CY0⟩
      refine steps_cons ?_ ?_
      · intro b a w' hI_ hb_ hon hoff
        refine ⟨_, rfl, fun K hK => ?_⟩
        obtain ⟨ha, Q_HBB, Q_RX, Q_CY0⟩ := hI_
        have e11 : a.tmps[11]? = some (.int .i64 r2) := by rw [ha]; exact (putSel_off rfl).trans rfl
        have e87 : a.tmps[87]? = some (.bool true) := by rw [ha]; exact putSel_on (e := (26, 87, .bool true)) 26 rfl rfl (hon 26 (by kernel_rfl)) rfl
        replace ha := Aside0.mk ha
        have HBB := Aside0.mk Q_HBB
        have RX := Aside0.mk Q_RX
        have CY0 := Aside0.mk Q_CY0
        refine value_ (w1 := w') (v := .int .i64 r2) (wanted_on rfl rfl rfl (e87.trans (by first | rfl | (simp [*]; done)))) rfl ?_ ?_
        · go_simp
          (try simp only [i64_w])
          try (first | rfl | assumption)
        refine hK.out _ _ ⟨(by rw [ha.out]; exact putSel_upk 27 hb_ rfl rfl rfl), Q_HBB, Q_RX, Q_CY0⟩
      refine steps_cons ?_ ?_
      · intro b a w' hI_ hb_ hon hoff
        refine ⟨_, rfl, fun K hK => ?_⟩
        obtain ⟨ha, Q_HBB, Q_RX, Q_CY0⟩ := hI_
        have e13 : a.tmps[13]? = some (.int .i64 r2) := by rw [ha]; exact (putSel_off rfl).trans rfl
        have e87 : a.tmps[87]? = some (.bool true) := by rw [ha]; exact putSel_on (e := (26, 87, .bool true)) 26 rfl rfl (hon 26 (by kernel_rfl)) rfl
        replace ha := Aside0.mk ha
        have HBB := Aside0.mk Q_HBB
        have RX := Aside0.mk Q_RX
        have CY0 := Aside0.mk Q_CY0
        refine value_ (w1 := w') (v := .int .i64 r2) (wanted_on rfl rfl rfl (e87.trans (by first | rfl | (simp [*]; done)))) rfl ?_ ?_
        · go_simp
          (try simp only [i64_w])
          try (first | rfl | assumption)
        refine hK.out _ _ ⟨(by rw [ha.out]; exact putSel_upk 28 hb_ rfl rfl rfl), Q_HBB, Q_RX, Q_CY0⟩
      refine steps_cons ?_ ?_
      · intro b a w' hI_ hb_ hon hoff
        refine ⟨_, rfl, fun K hK => ?_⟩
        obtain ⟨ha, Q_HBB, Q_RX, Q_CY0⟩ := hI_
        have e88 : a.tmps[88]? = some (.int .i64 r2) := by rw [ha]; exact putSel_on (e := (27, 88, .int .i64 r2)) 27 rfl rfl (hon 27 (by kernel_rfl)) rfl
        have e89 : a.tmps[89]? = some (.int .i64 r2) := by rw [ha]; exact putSel_on (e := (28, 89, .int .i64 r2)) 28 rfl rfl (hon 28 (by kernel_rfl)) rfl
        have e87 : a.tmps[87]? = some (.bool true) := by rw [ha]; exact putSel_on (e := (26, 87, .bool true)) 26 rfl rfl (hon 26 (by kernel_rfl)) rfl
        replace ha := Aside0.mk ha
        have HBB := Aside0.mk Q_HBB
        have RX := Aside0.mk Q_RX
        have CY0 := Aside0.mk Q_CY0
        refine value_ (w1 := w') (v := .bool true) (wanted_on rfl rfl rfl (e87.trans (by first | rfl | (simp [*]; done)))) rfl ?_ ?_
        · go_simp
          (try simp only [i64_w])
          try (first | rfl | assumption)
        refine hK.out _ _ ⟨(by rw [ha.out]; exact putSel_upk 29 hb_ rfl rfl rfl), Q_HBB, Q_RX, Q_CY0⟩
      refine steps_cons ?_ ?_
      · intro b a w' hI_ hb_ hon hoff
        refine ⟨_, rfl, fun K hK => ?_⟩
        obtain ⟨ha, Q_HBB, Q_RX, Q_CY0⟩ := hI_
        have e87 : a.tmps[87]? = some (.bool true) := by rw [ha]; exact putSel_on (e := (26, 87, .bool true)) 26 rfl rfl (hon 26 (by kernel_rfl)) rfl
        have e90 : a.tmps[90]? = some (.bool true) := by rw [ha]; exact putSel_on (e := (29, 90, .bool true)) 29 rfl rfl (hon 29 (by kernel_rfl)) rfl
        replace ha := Aside0.mk ha
        have HBB := Aside0.mk Q_HBB
        have RX := Aside0.mk Q_RX
        have CY0 := Aside0.mk Q_CY0
        refine value_ (w1 := w') (v := .bool true) (by rfl) rfl ?_ ?_
        · go_simp
          (try simp only [i64_w])
          try (first | rfl | assumption)
        refine hK.out _ _ ⟨(by rw [ha.out]; exact putSel_upk 30 hb_ rfl rfl rfl), Q_HBB, Q_RX, Q_CY0⟩
      refine steps_cons ?_ ?_
      · intro b a w' hI_ hb_ hon hoff
        refine ⟨_, rfl, fun K hK => ?_⟩
        obtain ⟨ha, Q_HBB, Q_RX, Q_CY0⟩ := hI_
        have e91 : a.tmps[91]? = some (.bool true) := by rw [ha]; exact putSel_on (e := (30, 91, .bool true)) 30 rfl rfl (hon 30 (by kernel_rfl)) rfl
        replace ha := Aside0.mk ha
        have HBB := Aside0.mk Q_HBB
        have RX := Aside0.mk Q_RX
        have CY0 := Aside0.mk Q_CY0
        refine value_ (w1 := w') (v := .bool true) (by rfl) rfl ?_ ?_
        · go_simp
          (try simp only [i64_w])
          try (first | rfl | assumption)
        refine hK.out _ _ ⟨(by rw [ha.out]; exact putSel_upk 31 hb_ rfl rfl rfl), Q_HBB, Q_RX, Q_CY0⟩
      exact steps_nil
    rintro b a wz hall ⟨ha, Q_HBB, Q_RX, Q_CY0⟩
    clear CY0 HBB RX
    have hb0_ := hall 0 (by kernel_rfl)
    have hb1_ := hall 1 (by kernel_rfl)
    have hb2_ := hall 2 (by kernel_rfl)
    have hb3_ := hall 3 (by kernel_rfl)
    have hb4_ := hall 4 (by kernel_rfl)
    have hb5_ := hall 5 (by kernel_rfl)
    have hb6_ := hall 6 (by kernel_rfl)
    have hb7_ := hall 7 (by kernel_rfl)
    have hb8_ := hall 8 (by kernel_rfl)
    have hb9_ := hall 9 (by kernel_rfl)
    have hb10_ := hall 10 (by kernel_rfl)
    have hb11_ := hall 11 (by kernel_rfl)
    have hb12_ := hall 12 (by kernel_rfl)
    have hb13_ := hall 13 (by kernel_rfl)
    have hb14_ := hall 14 (by kernel_rfl)
    have hb15_ := hall 15 (by kernel_rfl)
    have hb16_ := hall 16 (by kernel_rfl)
    have hb17_ := hall 17 (by kernel_rfl)
    have hb18_ := hall 18 (by kernel_rfl)
    have hb19_ := hall 19 (by kernel_rfl)
    have hb20_ := hall 20 (by kernel_rfl)
    have hb21_ := hall 21 (by kernel_rfl)
    have hb22_ := hall 22 (by kernel_rfl)
    have hb23_ := hall 23 (by kernel_rfl)
    have hb24_ := hall 24 (by kernel_rfl)
    have hb25_ := hall 25 (by kernel_rfl)
    have hb26_ := hall 26 (by kernel_rfl)
    have hb27_ := hall 27 (by kernel_rfl)
    have hb28_ := hall 28 (by kernel_rfl)
    have hb29_ := hall 29 (by kernel_rfl)
    have hb30_ := hall 30 (by kernel_rfl)
    have hb31_ := hall 31 (by kernel_rfl)
    subst ha
    simp only [putSel, hb0_, hb1_, hb2_, hb3_, hb4_, hb5_, hb6_, hb7_, hb8_, hb9_, hb10_, hb11_, hb12_, hb13_, hb14_, hb15_, hb16_, hb17_, hb18_, hb19_, hb20_, hb21_, hb22_, hb23_, hb24_, hb25_, hb26_, hb27_, hb28_, hb29_, hb30_, hb31_, if_true, Act.put, List.setIfInBounds_toArray, List.set_cons_zero, List.set_cons_succ]
    have HBB := Aside0.mk Q_HBB
    clear Q_HBB
    have RX := Aside0.mk Q_RX
    clear Q_RX
    have CY0 := Aside0.mk Q_CY0
    clear Q_CY0
    clear hall hb0_ hb1_ hb2_ hb3_ hb4_ hb5_ hb6_ hb7_ hb8_ hb9_ hb10_ hb11_ hb12_ hb13_ hb14_ hb15_ hb16_ hb17_ hb18_ hb19_ hb20_ hb21_ hb22_ hb23_ hb24_ hb25_ hb26_ hb27_ hb28_ hb29_ hb30_ hb31_
    go_wp2_with fail
    go_ret
    exact ⟨rfl, (by repeat (first | (with_reducible first | exact HBB.out | apply below_alloc | apply pw_below_drewN | apply below_drew1) | exact HBB.out))⟩
  · have hbn : (c != 0) = true := bne_iff_ne.mpr hc0
    clear HEQ HY
    have HC0 := Aside0.mk hc0
    clear hc0
    refine start_ (n := 32) (S := fun w' => True) (ds := []) #[false, false, false, false, false, false, false, false, false, false, false, false, false, false, false, false, false, false, false, false, false, false, false, false, false, false, false, false, false, false, false, false] (by kernel_rfl) rfl rfl trivial (fun hHeld => ?_); refine with_tabW D6.tab14 D6.bits14 (fun HT_ HW_ => ?_)
    refine inv_at [0, 1, 2, 3, 4, 5, 6, 7, 8, 9, 10, 11, 12, 13, 14, 15, 16, 17, 18, 19, 20, 21, 22, 23, 24, 25, 26, 27, 28, 29, 30, 31] (fun a0_ b a w' => a = putSel a0_ b [(0, 61, .bool true), (1, 62, .bool true), (2, 63, .bool true), (3, 64, .bool true), (4, 65, .bool true), (5, 66, .int .i64 c), (6, 67, .int .i64 c), (7, 68, .bool true), (8, 69, .bool true), (9, 70, .bool true), (10, 71, .int .i64 c), (11, 72, .bool true), (12, 73, .bool true), (13, 74, undef), (14, 75, undef), (15, 76, undef), (16, 77, undef), (17, 78, undef), (18, 79, undef), (19, 80, undef), (20, 81, undef), (21, 82, (Value.bool true)), (22, 83, (Value.bool true)), (23, 84, (Value.bool true)), (24, 85, .bool true), (25, 86, .bool true), (26, 87, .bool true), (27, 88, .int .i64 r2), (28, 89, .int .i64 r2), (29, 90, .bool true), (30, 91, .bool true), (31, 2, .bool true)] ∧ (Below w.heap.size w w')) HT_.out HW_.out (by kernel_rfl) (by kernel_rfl) ?_ ?_ ?_
    · exact ⟨by simp only [putSel, Bool.false_eq_true, if_false], (by repeat (first | (with_reducible first | exact HBB.out | apply below_alloc | apply pw_below_drewN | apply below_drew1) | exact HBB.out))⟩
    · clear HT_ HW_ hHeld
      clear HBB
      refine steps_cons ?_ ?_
      · intro b a w' hI_ hb_ hon hoff
        refine ⟨_, rfl, fun K hK => ?_⟩
        obtain ⟨ha, Q_HBB⟩ := hI_
        have e3 : a.tmps[3]? = some (.bool true) := by rw [ha]; exact (putSel_off rfl).trans rfl
        replace ha := Aside0.mk ha
        have HBB := Aside0.mk Q_HBB
        refine value_ (w1 := w') (v := .bool true) (by rfl) rfl ?_ ?_
        · go_simp
          (try simp only [i64_w])
          try (first | rfl | assumption)
        refine hK.out _ _ ⟨(by rw [ha.out]; exact putSel_upk 0 hb_ rfl rfl rfl), Q_HBB⟩
      refine steps_cons ?_ ?_
      · intro b a w' hI_ hb_ hon hoff
        refine ⟨_, rfl, fun K hK => ?_⟩
        obtain ⟨ha, Q_HBB⟩ := hI_
        have e61 : a.tmps[61]? = some (.bool true) := by rw [ha]; exact putSel_on (e := (0, 61, .bool true)) 0 rfl rfl (hon 0 (by kernel_rfl)) rfl
        replace ha := Aside0.mk ha
        have HBB := Aside0.mk Q_HBB
        refine value_ (w1 := w') (v := .bool true) (by rfl) rfl ?_ ?_
        · go_simp
          (try simp only [i64_w])
          try (first | rfl | assumption)
        refine hK.out _ _ ⟨(by rw [ha.out]; exact putSel_upk 1 hb_ rfl rfl rfl), Q_HBB⟩
      refine steps_cons ?_ ?_
      · intro b a w' hI_ hb_ hon hoff
        refine ⟨_, rfl, fun K hK => ?_⟩
        obtain ⟨ha, Q_HBB⟩ := hI_
        have e14 : a.tmps[14]? = some (.bool true) := by rw [ha]; exact (putSel_off rfl).trans rfl
        have e62 : a.tmps[62]? = some (.bool true) := by rw [ha]; exact putSel_on (e := (1, 62, .bool true)) 1 rfl rfl (hon 1 (by kernel_rfl)) rfl
        replace ha := Aside0.mk ha
        have HBB := Aside0.mk Q_HBB
        refine value_ (w1 := w') (v := .bool true) (wanted_on rfl rfl rfl (e62.trans (by first | rfl | (simp [*]; done)))) rfl ?_ ?_
        · go_simp
          (try simp only [i64_w])
          try (first | rfl | assumption)
        refine hK.out _ _ ⟨(by rw [ha.out]; exact putSel_upk 2 hb_ rfl rfl rfl), Q_HBB⟩
      refine steps_cons ?_ ?_
      · intro b a w' hI_ hb_ hon hoff
        refine ⟨_, rfl, fun K hK => ?_⟩
        obtain ⟨ha, Q_HBB⟩ := hI_
        have e62 : a.tmps[62]? = some (.bool true) := by rw [ha]; exact putSel_on (e := (1, 62, .bool true)) 1 rfl rfl (hon 1 (by kernel_rfl)) rfl
        have e63 : a.tmps[63]? = some (.bool true) := by rw [ha]; exact putSel_on (e := (2, 63, .bool true)) 2 rfl rfl (hon 2 (by kernel_rfl)) rfl
        replace ha := Aside0.mk ha
        have HBB := Aside0.mk Q_HBB
        refine value_ (w1 := w') (v := .bool true) (by rfl) rfl ?_ ?_
        · go_simp
          (try simp only [i64_w])
          try (first | rfl | assumption)
        refine hK.out _ _ ⟨(by rw [ha.out]; exact putSel_upk 3 hb_ rfl rfl rfl), Q_HBB⟩
      refine steps_cons ?_ ?_
      · intro b a w' hI_ hb_ hon hoff
        refine ⟨_, rfl, fun K hK => ?_⟩
        obtain ⟨ha, Q_HBB⟩ := hI_
        have e64 : a.tmps[64]? = some (.bool true) := by rw [ha]; exact putSel_on (e := (3, 64, .bool true)) 3 rfl rfl (hon 3 (by kernel_rfl)) rfl
        replace ha := Aside0.mk ha
        have HBB := Aside0.mk Q_HBB
        refine value_ (w1 := w') (v := .bool true) (by rfl) rfl ?_ ?_
        · go_simp
          (try simp only [i64_w])
          try (first | rfl | assumption)
        refine hK.out _ _ ⟨(by rw [ha.out]; exact putSel_upk 4 hb_ rfl rfl rfl), Q_HBB⟩
      refine steps_cons ?_ ?_
      · intro b a w' hI_ hb_ hon hoff
        refine ⟨_, rfl, fun K hK => ?_⟩
        obtain ⟨ha, Q_HBB⟩ := hI_
        have e6 : a.tmps[6]? = some (.int .i64 c) := by rw [ha]; exact (putSel_off rfl).trans rfl
        have e65 : a.tmps[65]? = some (.bool true) := by rw [ha]; exact putSel_on (e := (4, 65, .bool true)) 4 rfl rfl (hon 4 (by kernel_rfl)) rfl
        replace ha := Aside0.mk ha
        have HBB := Aside0.mk Q_HBB
        refine value_ (w1 := w') (v := .int .i64 c) (wanted_on rfl rfl rfl (e65.trans (by first | rfl | (simp [*]; done)))) rfl ?_ ?_
        · go_simp
          (try simp only [i64_w])
          try (first | rfl | assumption)
        refine hK.out _ _ ⟨(by rw [ha.out]; exact putSel_upk 5 hb_ rfl rfl rfl), Q_HBB⟩
      refine steps_cons ?_ ?_
      · intro b a w' hI_ hb_ hon hoff
        refine ⟨_, rfl, fun K hK => ?_⟩
        obtain ⟨ha, Q_HBB⟩ := hI_
        have e9 : a.tmps[9]? = some (.int .i64 c) := by rw [ha]; exact (putSel_off rfl).trans rfl
        have e65 : a.tmps[65]? = some (.bool true) := by rw [ha]; exact putSel_on (e := (4, 65, .bool true)) 4 rfl rfl (hon 4 (by kernel_rfl)) rfl
        replace ha := Aside0.mk ha
        have HBB := Aside0.mk Q_HBB
        refine value_ (w1 := w') (v := .int .i64 c) (wanted_on rfl rfl rfl (e65.trans (by first | rfl | (simp [*]; done)))) rfl ?_ ?_
        · go_simp
          (try simp only [i64_w])
          try (first | rfl | assumption)
        refine hK.out _ _ ⟨(by rw [ha.out]; exact putSel_upk 6 hb_ rfl rfl rfl), Q_HBB⟩
      refine steps_cons ?_ ?_
      · intro b a w' hI_ hb_ hon hoff
        refine ⟨_, rfl, fun K hK => ?_⟩
        obtain ⟨ha, Q_HBB⟩ := hI_
        have e66 : a.tmps[66]? = some (.int .i64 c) := by rw [ha]; exact putSel_on (e := (5, 66, .int .i64 c)) 5 rfl rfl (hon 5 (by kernel_rfl)) rfl
        have e67 : a.tmps[67]? = some (.int .i64 c) := by rw [ha]; exact putSel_on (e := (6, 67, .int .i64 c)) 6 rfl rfl (hon 6 (by kernel_rfl)) rfl
        have e65 : a.tmps[65]? = some (.bool true) := by rw [ha]; exact putSel_on (e := (4, 65, .bool true)) 4 rfl rfl (hon 4 (by kernel_rfl)) rfl
        replace ha := Aside0.mk ha
        have HBB := Aside0.mk Q_HBB
        refine value_ (w1 := w') (v := .bool true) (wanted_on rfl rfl rfl (e65.trans (by first | rfl | (simp [*]; done)))) rfl ?_ ?_
        · go_simp
          (try simp only [i64_w])
          try (first | rfl | assumption)
        refine hK.out _ _ ⟨(by rw [ha.out]; exact putSel_upk 7 hb_ rfl rfl rfl), Q_HBB⟩
      refine steps_cons ?_ ?_
      · intro b a w' hI_ hb_ hon hoff
        refine ⟨_, rfl, fun K hK => ?_⟩
        obtain ⟨ha, Q_HBB⟩ := hI_
        have e65 : a.tmps[65]? = some (.bool true) := by rw [ha]; exact putSel_on (e := (4, 65, .bool true)) 4 rfl rfl (hon 4 (by kernel_rfl)) rfl
        have e68 : a.tmps[68]? = some (.bool true) := by rw [ha]; exact putSel_on (e := (7, 68, .bool true)) 7 rfl rfl (hon 7 (by kernel_rfl)) rfl
        replace ha := Aside0.mk ha
        have HBB := Aside0.mk Q_HBB
        refine value_ (w1 := w') (v := .bool true) (by rfl) rfl ?_ ?_
        · go_simp
          (try simp only [i64_w])
          try (first | rfl | assumption)
        refine hK.out _ _ ⟨(by rw [ha.out]; exact putSel_upk 8 hb_ rfl rfl rfl), Q_HBB⟩
      refine steps_cons ?_ ?_
      · intro b a w' hI_ hb_ hon hoff
        refine ⟨_, rfl, fun K hK => ?_⟩
        obtain ⟨ha, Q_HBB⟩ := hI_
        have e69 : a.tmps[69]? = some (.bool true) := by rw [ha]; exact putSel_on (e := (8, 69, .bool true)) 8 rfl rfl (hon 8 (by kernel_rfl)) rfl
        replace ha := Aside0.mk ha
        have HBB := Aside0.mk Q_HBB
        refine value_ (w1 := w') (v := .bool true) (by rfl) rfl ?_ ?_
        · go_simp
          (try simp only [i64_w])
          try (first | rfl | assumption)
        refine hK.out _ _ ⟨(by rw [ha.out]; exact putSel_upk 9 hb_ rfl rfl rfl), Q_HBB⟩
      refine steps_cons ?_ ?_
      · intro b a w' hI_ hb_ hon hoff
        refine ⟨_, rfl, fun K hK => ?_⟩
        obtain ⟨ha, Q_HBB⟩ := hI_
        have e6 : a.tmps[6]? = some (.int .i64 c) := by rw [ha]; exact (putSel_off rfl).trans rfl
        have e70 : a.tmps[70]? = some (.bool true) := by rw [ha]; exact putSel_on (e := (9, 70, .bool true)) 9 rfl rfl (hon 9 (by kernel_rfl)) rfl
        replace ha := Aside0.mk ha
        have HBB := Aside0.mk Q_HBB
        refine value_ (w1 := w') (v := .int .i64 c) (wanted_on rfl rfl rfl (e70.trans (by first | rfl | (simp [*]; done)))) rfl ?_ ?_
        · go_simp
          (try simp only [i64_w])
          try (first | rfl | assumption)
        refine hK.out _ _ ⟨(by rw [ha.out]; exact putSel_upk 10 hb_ rfl rfl rfl), Q_HBB⟩
      refine steps_cons ?_ ?_
      · intro b a w' hI_ hb_ hon hoff
        refine ⟨_, rfl, fun K hK => ?_⟩
        obtain ⟨ha, Q_HBB⟩ := hI_
        have e71 : a.tmps[71]? = some (.int .i64 c) := by rw [ha]; exact putSel_on (e := (10, 71, .int .i64 c)) 10 rfl rfl (hon 10 (by kernel_rfl)) rfl
        have e70 : a.tmps[70]? = some (.bool true) := by rw [ha]; exact putSel_on (e := (9, 70, .bool true)) 9 rfl rfl (hon 9 (by kernel_rfl)) rfl
        replace ha := Aside0.mk ha
        have HBB := Aside0.mk Q_HBB
        refine value_ (w1 := w') (v := .bool true) (wanted_on rfl rfl rfl (e70.trans (by first | rfl | (simp [*]; done)))) rfl ?_ ?_
        · go_simp
          (try simp only [i64_w])
          try (first | rfl | assumption)
        refine hK.out _ _ ⟨(by rw [ha.out]; exact putSel_upk 11 hb_ rfl rfl rfl), Q_HBB⟩
      refine steps_cons ?_ ?_
      · intro b a w' hI_ hb_ hon hoff
        refine ⟨_, rfl, fun K hK => ?_⟩
        obtain ⟨ha, Q_HBB⟩ := hI_
        have e72 : a.tmps[72]? = some (.bool true) := by rw [ha]; exact putSel_on (e := (11, 72, .bool true)) 11 rfl rfl (hon 11 (by kernel_rfl)) rfl
        have e70 : a.tmps[70]? = some (.bool true) := by rw [ha]; exact putSel_on (e := (9, 70, .bool true)) 9 rfl rfl (hon 9 (by kernel_rfl)) rfl
        replace ha := Aside0.mk ha
        have HBB := Aside0.mk Q_HBB
        refine value_ (w1 := w') (v := .bool true) (wanted_on rfl rfl rfl (e70.trans (by first | rfl | (simp [*]; done)))) rfl ?_ ?_
        · go_simp
          (try simp only [i64_w])
          try (first | rfl | assumption)
        refine hK.out _ _ ⟨(by rw [ha.out]; exact putSel_upk 12 hb_ rfl rfl rfl), Q_HBB⟩
      refine steps_cons ?_ ?_
      · intro b a w' hI_ hb_ hon hoff
        refine ⟨_, rfl, fun K hK => ?_⟩
        obtain ⟨ha, Q_HBB⟩ := hI_
        have e73 : a.tmps[73]? = some (.bool true) := by rw [ha]; exact putSel_on (e := (12, 73, .bool true)) 12 rfl rfl (hon 12 (by kernel_rfl)) rfl
        replace ha := Aside0.mk ha
        have HBB := Aside0.mk Q_HBB
        refine off_ (wanted_off rfl rfl rfl (e73.trans (by first | rfl | (simp [*]; done)))) ?_
        refine hK.out _ _ ⟨(by rw [ha.out]; exact putSel_upk 13 hb_ rfl rfl rfl), Q_HBB⟩
      refine steps_cons ?_ ?_
      · intro b a w' hI_ hb_ hon hoff
        refine ⟨_, rfl, fun K hK => ?_⟩
        obtain ⟨ha, Q_HBB⟩ := hI_
        have e73 : a.tmps[73]? = some (.bool true) := by rw [ha]; exact putSel_on (e := (12, 73, .bool true)) 12 rfl rfl (hon 12 (by kernel_rfl)) rfl
        replace ha := Aside0.mk ha
        have HBB := Aside0.mk Q_HBB
        refine off_ (wanted_off rfl rfl rfl (e73.trans (by first | rfl | (simp [*]; done)))) ?_
        refine hK.out _ _ ⟨(by rw [ha.out]; exact putSel_upk 14 hb_ rfl rfl rfl), Q_HBB⟩
      refine steps_cons ?_ ?_
      · intro b a w' hI_ hb_ hon hoff
        refine ⟨_, rfl, fun K hK => ?_⟩
        obtain ⟨ha, Q_HBB⟩ := hI_
        have e73 : a.tmps[73]? = some (.bool true) := by rw [ha]; exact putSel_on (e := (12, 73, .bool true)) 12 rfl rfl (hon 12 (by kernel_rfl)) rfl
        replace ha := Aside0.mk ha
        have HBB := Aside0.mk Q_HBB
        refine off_ (wanted_off rfl rfl rfl (e73.trans (by first | rfl | (simp [*]; done)))) ?_
        refine hK.out _ _ ⟨(by rw [ha.out]; exact putSel_upk 15 hb_ rfl rfl rfl), Q_HBB⟩
      refine steps_cons ?_ ?_
      · intro b a w' hI_ hb_ hon hoff
        refine ⟨_, rfl, fun K hK => ?_⟩
        obtain ⟨ha, Q_HBB⟩ := hI_
        have e73 : a.tmps[73]? = some (.bool true) := by rw [ha]; exact putSel_on (e := (12, 73, .bool true)) 12 rfl rfl (hon 12 (by kernel_rfl)) rfl
        replace ha := Aside0.mk ha
        have HBB := Aside0.mk Q_HBB
        refine off_ (wanted_off rfl rfl rfl (e73.trans (by first | rfl | (simp [*]; done)))) ?_
        refine hK.out _ _ ⟨(by rw [ha.out]; exact putSel_upk 16 hb_ rfl rfl rfl), Q_HBB⟩
      refine steps_cons ?_ ?_
      · intro b a w' hI_ hb_ hon hoff
        refine ⟨_, rfl, fun K hK => ?_⟩
        obtain ⟨ha, Q_HBB⟩ := hI_
        have e73 : a.tmps[73]? = some (.bool true) := by rw [ha]; exact putSel_on (e := (12, 73, .bool true)) 12 rfl rfl (hon 12 (by kernel_rfl)) rfl
        replace ha := Aside0.mk ha
        have HBB := Aside0.mk Q_HBB
        refine off_ (wanted_off rfl rfl rfl (e73.trans (by first | rfl | (simp [*]; done)))) ?_
        refine hK.out _ _ ⟨(by rw [ha.out]; exact putSel_upk 17 hb_ rfl rfl rfl), Q_HBB⟩
      refine steps_cons ?_ ?_
      · intro b a w' hI_ hb_ hon hoff
        refine ⟨_, rfl, fun K hK => ?_⟩
        obtain ⟨ha, Q_HBB⟩ := hI_
        have e73 : a.tmps[73]? = some (.bool true) := by rw [ha]; exact putSel_on (e := (12, 73, .bool true)) 12 rfl rfl (hon 12 (by kernel_rfl)) rfl
        replace ha := Aside0.mk ha
        have HBB := Aside0.mk Q_HBB
        refine off_ (wanted_off rfl rfl rfl (e73.trans (by first | rfl | (simp [*]; done)))) ?_
        refine hK.out _ _ ⟨(by rw [ha.out]; exact putSel_upk 18 hb_ rfl rfl rfl), Q_HBB⟩
      refine steps_cons ?_ ?_
      · intro b a w' hI_ hb_ hon hoff
        refine ⟨_, rfl, fun K hK => ?_⟩
        obtain ⟨ha, Q_HBB⟩ := hI_
        have e73 : a.tmps[73]? = some (.bool true) := by rw [ha]; exact putSel_on (e := (12, 73, .bool true)) 12 rfl rfl (hon 12 (by kernel_rfl)) rfl
        replace ha := Aside0.mk ha
        have HBB := Aside0.mk Q_HBB
        refine off_ (wanted_off rfl rfl rfl (e73.trans (by first | rfl | (simp [*]; done)))) ?_
        refine hK.out _ _ ⟨(by rw [ha.out]; exact putSel_upk 19 hb_ rfl rfl rfl), Q_HBB⟩
      refine steps_cons ?_ ?_
      · intro b a w' hI_ hb_ hon hoff
        refine ⟨_, rfl, fun K hK => ?_⟩
        obtain ⟨ha, Q_HBB⟩ := hI_
        have e73 : a.tmps[73]? = some (.bool true) := by rw [ha]; exact putSel_on (e := (12, 73, .bool true)) 12 rfl rfl (hon 12 (by kernel_rfl)) rfl
        replace ha := Aside0.mk ha
        have HBB := Aside0.mk Q_HBB
        refine off_ (wanted_off rfl rfl rfl (e73.trans (by first | rfl | (simp [*]; done)))) ?_
        refine hK.out _ _ ⟨(by rw [ha.out]; exact putSel_upk 20 hb_ rfl rfl rfl), Q_HBB⟩
      refine steps_cons ?_ ?_
      · intro b a w' hI_ hb_ hon hoff
        refine ⟨_, rfl, fun K hK => ?_⟩
        obtain ⟨ha, Q_HBB⟩ := hI_
        have e73 : a.tmps[73]? = some (.bool true) := by rw [ha]; exact putSel_on (e := (12, 73, .bool true)) 12 rfl rfl (hon 12 (by kernel_rfl)) rfl
        have e81 : a.tmps[81]? = some (undef) := by rw [ha]; exact putSel_on (e := (20, 81, undef)) 20 rfl rfl (hon 20 (by kernel_rfl)) rfl
        have e70 : a.tmps[70]? = some (.bool true) := by rw [ha]; exact putSel_on (e := (9, 70, .bool true)) 9 rfl rfl (hon 9 (by kernel_rfl)) rfl
        replace ha := Aside0.mk ha
        have HBB := Aside0.mk Q_HBB
        refine value_ (w1 := w') (v := (Value.bool true)) (wanted_on rfl rfl rfl (e70.trans (by first | rfl | (simp [*]; done)))) rfl ?_ ?_
        · go_simp
          (try simp only [i64_w])
          try (first | rfl | assumption)
        refine hK.out _ _ ⟨(by rw [ha.out]; exact putSel_upk 21 hb_ rfl rfl rfl), Q_HBB⟩
      refine steps_cons ?_ ?_
      · intro b a w' hI_ hb_ hon hoff
        refine ⟨_, rfl, fun K hK => ?_⟩
        obtain ⟨ha, Q_HBB⟩ := hI_
        have e70 : a.tmps[70]? = some (.bool true) := by rw [ha]; exact putSel_on (e := (9, 70, .bool true)) 9 rfl rfl (hon 9 (by kernel_rfl)) rfl
        have e82 : a.tmps[82]? = some ((Value.bool true)) := by rw [ha]; exact putSel_on (e := (21, 82, (Value.bool true))) 21 rfl rfl (hon 21 (by kernel_rfl)) rfl
        replace ha := Aside0.mk ha
        have HBB := Aside0.mk Q_HBB
        refine value_ (w1 := w') (v := (Value.bool true)) (by rfl) rfl ?_ ?_
        · go_simp
          (try simp only [i64_w])
          try (first | rfl | assumption)
        refine hK.out _ _ ⟨(by rw [ha.out]; exact putSel_upk 22 hb_ rfl rfl rfl), Q_HBB⟩
      refine steps_cons ?_ ?_
      · intro b a w' hI_ hb_ hon hoff
        refine ⟨_, rfl, fun K hK => ?_⟩
        obtain ⟨ha, Q_HBB⟩ := hI_
        have e83 : a.tmps[83]? = some ((Value.bool true)) := by rw [ha]; exact putSel_on (e := (22, 83, (Value.bool true))) 22 rfl rfl (hon 22 (by kernel_rfl)) rfl
        replace ha := Aside0.mk ha
        have HBB := Aside0.mk Q_HBB
        refine value_ (w1 := w') (v := (Value.bool true)) (by rfl) rfl ?_ ?_
        · go_simp
          (try simp only [i64_w])
          try (first | rfl | assumption)
        refine hK.out _ _ ⟨(by rw [ha.out]; exact putSel_upk 23 hb_ rfl rfl rfl), Q_HBB⟩
      refine steps_cons ?_ ?_
      · intro b a w' hI_ hb_ hon hoff
        refine ⟨_, rfl, fun K hK => ?_⟩
        obtain ⟨ha, Q_HBB⟩ := hI_
        have e15 : a.tmps[15]? = some (.bool true) := by rw [ha]; exact (putSel_off rfl).trans rfl
        have e84 : a.tmps[84]? = some ((Value.bool true)) := by rw [ha]; exact putSel_on (e := (23, 84, (Value.bool true))) 23 rfl rfl (hon 23 (by kernel_rfl)) rfl
        replace ha := Aside0.mk ha
        have HBB := Aside0.mk Q_HBB
        refine value_ (w1 := w') (v := .bool true) (wanted_on rfl rfl rfl (e84.trans (by first | rfl | (simp [*]; done)))) rfl ?_ ?_
        · go_simp
          (try simp only [i64_w])
          try (first | rfl | assumption)
        refine hK.out _ _ ⟨(by rw [ha.out]; exact putSel_upk 24 hb_ rfl rfl rfl), Q_HBB⟩
      refine steps_cons ?_ ?_
      · intro b a w' hI_ hb_ hon hoff
        refine ⟨_, rfl, fun K hK => ?_⟩
        obtain ⟨ha, Q_HBB⟩ := hI_
        have e84 : a.tmps[84]? = some ((Value.bool true)) := by rw [ha]; exact putSel_on (e := (23, 84, (Value.bool true))) 23 rfl rfl (hon 23 (by kernel_rfl)) rfl
        have e85 : a.tmps[85]? = some (.bool true) := by rw [ha]; exact putSel_on (e := (24, 85, .bool true)) 24 rfl rfl (hon 24 (by kernel_rfl)) rfl
        replace ha := Aside0.mk ha
        have HBB := Aside0.mk Q_HBB
        refine value_ (w1 := w') (v := .bool true) (by rfl) rfl ?_ ?_
        · go_simp
          (try simp only [i64_w])
          try (first | rfl | assumption)
        refine hK.out _ _ ⟨(by rw [ha.out]; exact putSel_upk 25 hb_ rfl rfl rfl), Q_HBB⟩
      refine steps_cons ?_ ?_
      · intro b a w' hI_ hb_ hon hoff
        refine ⟨_, rfl, fun K hK => ?_⟩
        obtain ⟨ha, Q_HBB⟩ := hI_
        have e86 : a.tmps[86]? = some (.bool true) := by rw [ha]; exact putSel_on (e := (25, 86, .bool true)) 25 rfl rfl (hon 25 (by kernel_rfl)) rfl
        replace ha := Aside0.mk ha
        have HBB := Aside0.mk Q_HBB
        refine value_ (w1 := w') (v := .bool true) (by rfl) rfl ?_ ?_
        · go_simp
          (try simp only [i64_w])
          try (first | rfl | assumption)
        refine hK.out _ _ ⟨(by rw [ha.out]; exact putSel_upk 26 hb_ rfl rfl rfl), Q_HBB⟩
      refine steps_cons ?_ ?_
      · intro b a w' hI_ hb_ hon hoff
        refine ⟨_, rfl, fun K hK => ?_⟩
        obtain ⟨ha, Q_HBB⟩ := hI_
        have e11 : a.tmps[11]? = some (.int .i64 r2) := by rw [ha]; exact (putSel_off rfl).trans rfl
        have e87 : a.tmps[87]? = some (.bool true) := by rw [ha]; exact putSel_on (e := (26, 87, .bool true)) 26 rfl rfl (hon 26 (by kernel_rfl)) rfl
        replace ha := Aside0.mk ha
        have HBB := Aside0.mk Q_HBB
        refine value_ (w1 := w') (v := .int .i64 r2) (wanted_on rfl rfl rfl (e87.trans (by first | rfl | (simp [*]; done)))) rfl ?_ ?_
        · go_simp
          (try simp only [i64_w])
          try (first | rfl | assumption)
        refine hK.out _ _ ⟨(by rw [ha.out]; exact putSel_upk 27 hb_ rfl rfl rfl), Q_HBB⟩
      refine steps_cons ?_ ?_
      · intro b a w' hI_ hb_ hon hoff
        refine ⟨_, rfl, fun K hK => ?_⟩
        obtain ⟨ha, Q_HBB⟩ := hI_
        have e13 : a.tmps[13]? = some (.int .i64 r2) := by rw [ha]; exact (putSel_off rfl).trans rfl
        have e87 : a.tmps[87]? = some (.bool true) := by rw [ha]; exact putSel_on (e := (26, 87, .bool true)) 26 rfl rfl (hon 26 (by kernel_rfl)) rfl
        replace ha := Aside0.mk ha
        have HBB := Aside0.mk Q_HBB
        refine value_ (w1 := w') (v := .int .i64 r2) (wanted_on rfl rfl rfl (e87.trans (by first | rfl | (simp [*]; done)))) rfl ?_ ?_
        · go_simp
          (try simp only [i64_w])
          try (first | rfl | assumption)
        refine hK.out _ _ ⟨(by rw [ha.out]; exact putSel_upk 28 hb_ rfl rfl rfl), Q_HBB⟩
      refine steps_cons ?_ ?_
      · intro b a w' hI_ hb_ hon hoff
        refine ⟨_, rfl, fun K hK => ?_⟩
        obtain ⟨ha, Q_HBB⟩ := hI_
        have e88 : a.tmps[88]? = some (.int .i64 r2) := by rw [ha]; exact putSel_on (e := (27, 88, .int .i64 r2)) 27 rfl rfl (hon 27 (by kernel_rfl)) rfl
        have e89 : a.tmps[89]? = some (.int .i64 r2) := by rw [ha]; exact putSel_on (e := (28, 89, .int .i64 r2)) 28 rfl rfl (hon 28 (by kernel_rfl)) rfl
        have e87 : a.tmps[87]? = some (.bool true) := by rw [ha]; exact putSel_on (e := (26, 87, .bool true)) 26 rfl rfl (hon 26 (by kernel_rfl)) rfl
        replace ha := Aside0.mk ha
        have HBB := Aside0.mk Q_HBB
        refine value_ (w1 := w') (v := .bool true) (wanted_on rfl rfl rfl (e87.trans (by first | rfl | (simp [*]; done)))) rfl ?_ ?_
        · go_simp
          (try simp only [i64_w])
          try (first | rfl | assumption)
        refine hK.out _ _ ⟨(by rw [ha.out]; exact putSel_upk 29 hb_ rfl rfl rfl), Q_HBB⟩
      refine steps_cons ?_ ?_
      · intro b a w' hI_ hb_ hon hoff
        refine ⟨_, rfl, fun K hK => ?_⟩
        obtain ⟨ha, Q_HBB⟩ := hI_
        have e87 : a.tmps[87]? = some (.bool true) := by rw [ha]; exact putSel_on (e := (26, 87, .bool true)) 26 rfl rfl (hon 26 (by kernel_rfl)) rfl
        have e90 : a.tmps[90]? = some (.bool true) := by rw [ha]; exact putSel_on (e := (29, 90, .bool true)) 29 rfl rfl (hon 29 (by kernel_rfl)) rfl
        replace ha := Aside0.mk ha
        have HBB := Aside0.mk Q_HBB
        refine value_ (w1 := w') (v := .bool true) (by rfl) rfl ?_ ?_
        · go_simp
          (try simp only [i64_w])
          try (first | rfl | assumption)
        refine hK.out _ _ ⟨(by rw [ha.out]; exact putSel_upk 30 hb_ rfl rfl rfl), Q_HBB⟩
      refine steps_cons ?_ ?_
      · intro b a w' hI_ hb_ hon hoff
        refine ⟨_, rfl, fun K hK => ?_⟩
        obtain ⟨ha, Q_HBB⟩ := hI_
        have e91 : a.tmps[91]? = some (.bool true) := by rw [ha]; exact putSel_on (e := (30, 91, .bool true)) 30 rfl rfl (hon 30 (by kernel_rfl)) rfl
        replace ha := Aside0.mk ha
        have HBB := Aside0.mk Q_HBB
        refine value_ (w1 := w') (v := .bool true) (by rfl) rfl ?_ ?_
        · go_simp
          (try simp only [i64_w])
          try (first | rfl | assumption)
        refine hK.out _ _ ⟨(by rw [ha.out]; exact putSel_upk 31 hb_ rfl rfl rfl), Q_HBB⟩
      exact steps_nil
    rintro b a wz hall ⟨ha, Q_HBB⟩
    clear HBB
    have hb0_ := hall 0 (by kernel_rfl)
    have hb1_ := hall 1 (by kernel_rfl)
    have hb2_ := hall 2 (by kernel_rfl)
    have hb3_ := hall 3 (by kernel_rfl)
    have hb4_ := hall 4 (by kernel_rfl)
    have hb5_ := hall 5 (by kernel_rfl)
    have hb6_ := hall 6 (by kernel_rfl)
    have hb7_ := hall 7 (by kernel_rfl)
    have hb8_ := hall 8 (by kernel_rfl)
    have hb9_ := hall 9 (by kernel_rfl)
    have hb10_ := hall 10 (by kernel_rfl)
    have hb11_ := hall 11 (by kernel_rfl)
    have hb12_ := hall 12 (by kernel_rfl)
    have hb13_ := hall 13 (by kernel_rfl)
    have hb14_ := hall 14 (by kernel_rfl)
    have hb15_ := hall 15 (by kernel_rfl)
    have hb16_ := hall 16 (by kernel_rfl)
    have hb17_ := hall 17 (by kernel_rfl)
    have hb18_ := hall 18 (by kernel_rfl)
    have hb19_ := hall 19 (by kernel_rfl)
    have hb20_ := hall 20 (by kernel_rfl)
    have hb21_ := hall 21 (by kernel_rfl)
    have hb22_ := hall 22 (by kernel_rfl)
    have hb23_ := hall 23 (by kernel_rfl)
    have hb24_ := hall 24 (by kernel_rfl)
    have hb25_ := hall 25 (by kernel_rfl)
    have hb26_ := hall 26 (by kernel_rfl)
    have hb27_ := hall 27 (by kernel_rfl)
    have hb28_ := hall 28 (by kernel_rfl)
    have hb29_ := hall 29 (by kernel_rfl)
    have hb30_ := hall 30 (by kernel_rfl)
    have hb31_ := hall 31 (by kernel_rfl)
    subst ha
    simp only [putSel, hb0_, hb1_, hb2_, hb3_, hb4_, hb5_, hb6_, hb7_, hb8_, hb9_, hb10_, hb11_, hb12_, hb13_, hb14_, hb15_, hb16_, hb17_, hb18_, hb19_, hb20_, hb21_, hb22_, hb23_, hb24_, hb25_, hb26_, hb27_, hb28_, hb29_, hb30_, hb31_, if_true, Act.put, List.setIfInBounds_toArray, List.set_cons_zero, List.set_cons_succ]
    have HBB := Aside0.mk Q_HBB
    clear Q_HBB
    clear hall hb0_ hb1_ hb2_ hb3_ hb4_ hb5_ hb6_ hb7_ hb8_ hb9_ hb10_ hb11_ hb12_ hb13_ hb14_ hb15_ hb16_ hb17_ hb18_ hb19_ hb20_ hb21_ hb22_ hb23_ hb24_ hb25_ hb26_ hb27_ hb28_ hb29_ hb30_ hb31_
    go_wp2_with fail
    go_ret
    exact ⟨rfl, (by repeat (first | (with_reducible first | exact HBB.out | apply below_alloc | apply pw_below_drewN | apply below_drew1) | exact HBB.out))⟩
end Go.Proofs.Ytmnidohgnnpeiaa.Prt

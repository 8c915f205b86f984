/- Walks of package num and of its reference: the readers. -/
import Derived.Test.YtnkaighdajickaaN1
namespace Go.Proofs.Ytnkaighdajickaa.Num
open Go.RowKit Go.Proofs.YtnkaighdajickaaW.PrintWords Go.Proofs.YtnkaighdajickaaW.PrintLast Go.Proofs.YtnkaighdajickaaW.PrintMore
set_option linter.unusedVariables false
set_option linter.unusedSimpArgs false
attribute [local go_sem] max2_int min2_int max_two min_two

theorem refPutText_calls (A0 : Option Addr) (c0 : Nat) (l0 : List Int) (s : ByteArray) (w : World) (hr0 : Kd.C (Kd.int .u8) w A0 l0.length l0) (hc0 : l0.length ≤ c0) (hl : l0.length + s.size ≤ 140737488349000) :
    Calls Try.prog 15 #[.slice A0 l0.length c0, .string s] w fun e w' => ∃ v0_ : Value, e = .returned (v0_) ∧ Kd.R (Kd.int .u8) 5 w' w.heap.size (fun _ => True) v0_ (l0 ++ encT (bytesOf s)) ∧ Below w.heap.size w w' := by
  have HL : Aside0 ((enc (s.size : Int)).length ≤ 10) := ⟨enc_len ⟨by omega, by omega⟩⟩
  go_enter Try.func15, Try.ntmps15
  go_wp2_with (first
    | (go_at_call 13; refine (refPut_calls A0 c0 l0 (s.size : Int) w hr0 hc0 (by omega) (by omega) (by omega)).mono ?_; rintro e w1 ⟨v1, rfl, ho, hb⟩; have HB := Aside0.mk hb; have HO1 := Aside0.mk ho; clear ho hb)
    | ((with_reducible refine gate_dst (N := 10) rfl ?_); refine Gen.ev_bytes (w0 := w) w.heap.size rfl 9 23 5 (.tmp 9) rfl Try.underlying9 Try.underlying23 Try.underlying5 s rfl (by omega) (by repeat (first | (with_reducible first | exact HB.out | apply below_alloc | apply pw_below_drewN | apply below_drew1) | exact HB.out)) (below_size (by repeat (first | (with_reducible first | exact HB.out | apply below_alloc | apply pw_below_drewN | apply below_drew1) | exact HB.out))) ?_; intro A c w2 hr hc hb hb2; have HR2 := Aside0.mk hr; have HC2 := Aside0.mk hc; have n1_ := Aside0.mk (Kd.R_below HO1.out hb2); clear HB HO1 hr hc hb2; have HB := Aside0.mk hb; have HO1 := n1_; clear hb n1_)
    | ((with_reducible refine gate_builtin (b := .append) (xs := #[.tmp 8, .tmp 10]) rfl ?_); at_builtin; refine Kd.R_append_rows (Kd.int .u8) (w0 := w) w.heap.size rfl (.tmp 8) (.tmp 10) 23 5 (.int .u8 0) 1 rfl Try.underlying23 info_u8 rfl (by decide) (by omega) v1 (l0 ++ enc (s.size : Int)) (bytesOf s) _ _ _ (fun _ => True) (fun _ => False) rfl rfl ?aO ?aR (fun _ _ h => h) (fun _ h => h.elim) ?aF ?aB ?aS ?aL ?_; (case aR => exact HR2.out); (case aB => exact (by repeat (first | (with_reducible first | exact HB.out | apply below_alloc | apply pw_below_drewN | apply below_drew1) | exact HB.out))); (case aF => exact (fun _ _ => trivial)); (case aO => exact (by (with_reducible repeat (first | apply Kd.R_alloc | apply Kd.R_drewN | apply Kd.R_drew)); exact HO1.out)); (case aS => exact (below_size (by repeat (first | (with_reducible first | exact HB.out | apply below_alloc | apply pw_below_drewN | apply below_drew1) | exact HB.out)))); (case aL => have := HL.out; simp only [List.length_append]; omega); intro v3 w3 ho hb hg hat; have n0_ := Aside0.mk (hb); have n1_ := Aside0.mk (ho); clear HB; clear HO1; have HB := n0_; have HO3 := n1_; clear n0_ n1_; clear ho hb hg hat))

  go_ret
  refine ⟨_, rfl, ?_, (by repeat (first | (with_reducible first | exact HB.out | apply below_alloc | apply pw_below_drewN | apply below_drew1) | exact HB.out))⟩
  unfold encT
  rw [bytesOf_length, ← List.append_assoc]
  exact (by (with_reducible repeat (first | apply Kd.R_alloc | apply Kd.R_drewN | apply Kd.R_drew)); exact HO3.out)

/-- A reader (of type T) at block g of W: it reads l; its bytes, if there are some, lie in a block of P. -/
def Rd (T : Nat) (P : Nat → Prop) (W : World) (g : Nat) (l : List Int) (bad : Bool) : Prop :=
  ∃ A c, W.heap[g]? = some (.cells #[.slice A l.length c, .bool bad] T (0, 0)) ∧ l.length ≤ c ∧ Kd.C (Kd.int .u8) W A l.length l ∧ (∀ ad, A = some ad → 0 < l.length → P ad.block) ∧ ¬ P g
section
variable {T : Nat} {P : Nat → Prop} {W W1 : World} {g g' : Nat} {l : List Int} {bad : Bool}
theorem Rd.below (h : Rd T P W g l bad) (hb : Below W.heap.size W W1) : Rd T P W1 g l bad := by
  obtain ⟨A, c, h1, h2, h3, h4⟩ := h
  exact ⟨A, c, blk_below h1 hb, h2, Kd.C_below h3 hb, h4⟩
theorem Rd.kept (h : Rd T P W g l bad) (hk : KeepBut W W1 g' none) (hne : g ≠ g') (hP : ¬ P g') : Rd T P W1 g l bad := by
  obtain ⟨A, c, h1, h2, h3, h4, h5⟩ := h
  exact ⟨A, c, hk.blk h1 hne (by simp), h2, Kd.C_keep (0 : Int) h3 hk (fun ad e hn he => hP (he ▸ h4 ad e hn)), h4, h5⟩
theorem Rd.alloc (h : Rd T P W g l bad) (o : Obj) : Rd T P (W.alloc o) g l bad := h.below (below_alloc (Below.refl _ _) o)
theorem Rd.drewN (h : Rd T P W g l bad) (m : Nat) : Rd T P (W.drewN m) g l bad := h.below (pw_below_drewN (Below.refl _ _) m)
theorem Rd.drew (h : Rd T P W g l bad) : Rd T P W.drew g l bad := h.below (below_drew (Below.refl _ _))
theorem Rd.lt (h : Rd T P W g l bad) : g < W.heap.size := by obtain ⟨A, c, h1, _⟩ := h; exact blk_lt h1
theorem Rd.len (h : Rd T P W g l bad) : l.length ≤ 9223372036854775807 := by obtain ⟨A, c, _, _, h4, _⟩ := h; exact Kd.C_max h4
end
/-- 'xs[m:]' of a slice that is read: A' is a letter, in the same block. -/
theorem cutL {P : Program} (t e : TypeId) (kl : IntKind) {i : TypeInfo} (ht : P.underlying t = some (.slice e)) (hi : P.info? e = some i) (hsz : i.size = 1) (A : Option Addr) (n c m : Nat) (hm : m ≤ n) :
    ∃ A' : Option Addr, (∀ W : World, (Instr.slice t (.slice A n c) (some (.int kl (m : Int))) none none).run P W = .ok (.slice A' (n - m) (c - m)) W) ∧
      (∀ (w : World) (xs : List Int), n ≤ c → (Kd.int .u8).C w A n xs → (Kd.int .u8).C w A' (n - m) (xs.drop m)) ∧ ∀ ad, A' = some ad → ∃ ad0, A = some ad0 ∧ ad.block = ad0.block := by
  refine ⟨if c = m then A else A.map (·.add m), fun W => ?_, fun w xs hc h => ?_, fun ad he => ?_⟩
  · have hel : P.elem t = e := by simp [Program.elem, ht]
    have hu : P.underlying t = some (.slice (P.elem t)) := by rw [hel]; exact ht
    rw [run_slice_l W t A n c hu kl (m : Int) (Int.natCast_nonneg _) (by omega), hel]
    simp [sizeOf, typeInfo, hi, hsz, sliced, Result.andThen]
  · exact Kd.C_of_reads (d := (0 : Int)) (h1 := fun _ => rfl) (ReadsInt.drop_ (Kd.reads_of_C (enc := Value.int .u8) (d := (0 : Int)) (h1 := fun _ => rfl) h) m hm hc)
  · by_cases h : c = m
    · rw [if_pos h] at he; exact ⟨ad, he, rfl⟩
    · rw [if_neg h] at he
      obtain ⟨ad0, h1, h2⟩ := Option.map_eq_some_iff.1 he
      exact ⟨ad0, h1, by rw [← h2]; unfold Addr.add; split <;> rfl⟩
theorem belowSet {g j : Nat} {w w' : World} (h : Below g w w') (v : Value) : Below g w (w'.setCell ⟨g, j, none⟩ v) := h.setCell (p := ⟨g, j, none⟩) (Nat.le_refl g) v

theorem fail_calls (P : Nat → Prop) (w : World) (g : Nat) (l : List Int) (bad : Bool) (hI : Rd 47 P w g l bad) :
    Calls Try.prog 24 #[.pointer (some ⟨g, 0, none⟩)] w fun e w' => e = .returned (.tuple #[]) ∧ Rd 47 P w' g [] true ∧ Below g w w' ∧ KeepBut w w' g none := by
  obtain ⟨A, c, hblk, hc, hr, hP, hg⟩ := hI
  have hc0 := blk_cell hblk 0
  have hc1 := blk_cell hblk 1
  have hf0 := blk_frozen hblk 0
  have hf1 := blk_frozen hblk 1
  have HK := Aside0.mk hblk
  have HG := Aside0.mk hg
  clear hblk hr hc hP hg
  go_enter Try.func24, Try.ntmps24
  go_wp2
  go_end0
  have h2 := blk_set (blk_set HK.out 0 (.slice none 0 0)) 1 (.bool true)
  exact ⟨rfl, ⟨none, 0, by simpa using h2, Nat.le_refl _, Kd.C_nil _ _, (fun _ h _ => by cases h), HG.out⟩, belowSet (belowSet (Below.refl g w) _) _, ((KeepBut.refl w g none).set_ 0 _).set_ 1 _⟩
theorem length_calls (A0 : Option Addr) (c0 : Nat) (l0 : List Int) (w : World) (hr0 : Kd.C (Kd.int .u8) w A0 l0.length l0) (hc0 : l0.length ≤ c0) (hb : isBytes l0) :
    Calls Try.prog 26 #[.slice A0 l0.length c0] w fun e w' => e = .returned (.int .i64 (lenD l0 : Int)) ∧ Drawn0 w w' := by
  have HR0 := Aside0.mk hr0
  have HN := Kd.C_max hr0
  clear hr0 hc0
  have HBY := Aside0.mk hb
  clear hb
  go_enter Try.func26, Try.ntmps26
  go_wp2
  go_loopg [3] (l0.length) (fun k v3 w' => ∃ i : Nat, v3 = .int .i64 (i : Int) ∧ Aside0 (i + k = l0.length) ∧ Aside0 (i ≤ 10) ∧ Aside0 (allMore l0 i) ∧ Drawn0 w w')
  case atStart => exact ⟨0, rfl, ⟨by omega⟩, ⟨by omega⟩, ⟨allMore_zero _⟩, Drawn0.refl _⟩
  case round =>
    obtain ⟨i, rfl, HE, H10, HM, ⟨m1, rfl⟩⟩ := hrel
    have h10 := H10.out
    have hle : i ≤ l0.length := by have := HE.out; omega
    by_cases hlt : i < l0.length
    · by_cases hi10 : i < 10
      · have hb1 : decide ((i : Int) < (l0.length : Int)) = true := decide_eq_true (by omega)
        have hb2 : decide ((i : Int) < 10) = true := decide_eq_true (by omega)
        have hg := getD_bytes HBY.out i
        obtain ⟨ad, rfl, hx⟩ := Kd.at_int HR0.out (i : Int) (by omega) (by omega)
        rw [Int.toNat_natCast] at hx
        obtain ⟨c, hcd⟩ : ∃ c, c = rd l0 (i : Int) := ⟨_, rfl⟩
        have hcd' : l0.getD i 0 = c := by rw [hcd]; rfl
        rw [← hcd] at hx
        have HC := Aside0.mk hcd'
        clear hcd
        rw [hcd'] at hg
        clear hcd'
        by_cases h128 : 128 ≤ c
        · have hd : decide ((128 : Int) ≤ c) = true := decide_eq_true h128
          go_wp2
          go_roundg (l0.length - (i + 1))
          case measure => have := HE.out; omega
          case rel => exact ⟨i + 1, by go_num, ⟨by omega⟩, ⟨by omega⟩, ⟨allMore_succ HM.out (by rw [HC.out]; exact h128)⟩, by repeat (first | exact Drawn0.refl _ | apply Drawn0.step)⟩
        · have hd : decide ((128 : Int) ≤ c) = false := decide_eq_false h128
          have hit : (c = 0 → i = 0) → (i = 9 → c ≤ 1) → (lenD l0 : Int) = (i : Int) + 1 := fun g1 g2 => lenD_hit HBY.out HM.out hlt hi10 (by rw [HC.out]; omega) (by rw [HC.out]; omega) (by rw [HC.out]; omega)
          have bad : (c = 0 ∧ 0 < i) ∨ (i = 9 ∧ 1 < c) → (lenD l0 : Int) = 0 := fun g => lenD_bad HBY.out HM.out hlt hi10 (by rw [HC.out]; omega) (by rw [HC.out]; exact g)
          have HIT := Aside0.mk hit
          have BAD := Aside0.mk bad
          clear hit bad
          by_cases hi0 : 0 < i
          · have e1 : decide ((0 : Int) < (i : Int)) = true := decide_eq_true (by omega)
            by_cases hc0 : c = 0
            · have e2 : (c == 0) = true := beq_iff_eq.mpr hc0
              have HR := Aside0.mk (BAD.out (.inl ⟨hc0, hi0⟩))
              clear hc0
              go_wp2
              go_ret
              exact ⟨ret_i64 HR.out.symm, by repeat (first | exact Drawn0.refl _ | apply Drawn0.step)⟩
            · have e2 : (c == 0) = false := beq_eq_false_iff_ne.mpr hc0
              by_cases h9 : i = 9
              · have e3 : ((i : Int) == 9) = true := beq_iff_eq.mpr (by omega)
                by_cases h1 : 1 < c
                · have e4 : decide ((1 : Int) < c) = true := decide_eq_true h1
                  have HR := Aside0.mk (BAD.out (.inr ⟨h9, h1⟩))
                  clear hc0 h9
                  go_wp2
                  go_ret
                  exact ⟨ret_i64 HR.out.symm, by repeat (first | exact Drawn0.refl _ | apply Drawn0.step)⟩
                · have e4 : decide ((1 : Int) < c) = false := decide_eq_false h1
                  have HR := Aside0.mk (HIT.out (fun h => absurd h hc0) (fun _ => by omega))
                  clear hc0 h9
                  go_wp2
                  go_ret
                  exact ⟨ret_i64 HR.out.symm, by repeat (first | exact Drawn0.refl _ | apply Drawn0.step)⟩
              · have e3 : ((i : Int) == 9) = false := beq_eq_false_iff_ne.mpr (by omega)
                have HR := Aside0.mk (HIT.out (fun h => absurd h hc0) (fun h => absurd h h9))
                clear hc0 h9
                go_wp2
                go_ret
                exact ⟨ret_i64 HR.out.symm, by repeat (first | exact Drawn0.refl _ | apply Drawn0.step)⟩
          · have e1 : decide ((0 : Int) < (i : Int)) = false := decide_eq_false (by omega)
            have e3 : ((i : Int) == 9) = false := beq_eq_false_iff_ne.mpr (by omega)
            have HR := Aside0.mk (HIT.out (fun h => by omega) (fun h => by omega))
            go_wp2
            go_ret
            exact ⟨ret_i64 HR.out.symm, by repeat (first | exact Drawn0.refl _ | apply Drawn0.step)⟩
      · have hb1 : decide ((i : Int) < (l0.length : Int)) = true := decide_eq_true (by omega)
        have hb2 : decide ((i : Int) < 10) = false := decide_eq_false (by omega)
        have HR := Aside0.mk (lenD_end HBY.out HM.out hle h10 (.inl (by omega)))
        go_wp2
        go_ret
        exact ⟨ret_i64 HR.out.symm, by repeat (first | exact Drawn0.refl _ | apply Drawn0.step)⟩
    · have hb1 : decide ((i : Int) < (l0.length : Int)) = false := decide_eq_false (by omega)
      have HR := Aside0.mk (lenD_end HBY.out HM.out hle h10 (.inr (by omega)))
      go_wp2
      go_ret
      exact ⟨ret_i64 HR.out.symm, by repeat (first | exact Drawn0.refl _ | apply Drawn0.step)⟩

theorem newReader_calls (A0 : Option Addr) (c0 : Nat) (l0 : List Int) (w : World) (hr0 : Kd.C (Kd.int .u8) w A0 l0.length l0) (hc0 : l0.length ≤ c0) :
    Calls Try.prog 16 #[.slice A0 l0.length c0] w fun e w' => ∃ g : Nat, e = .returned (.pointer (some ⟨g, 0, none⟩)) ∧ Rd 47 (fun k => k < w.heap.size) w' g l0 false ∧ Below w.heap.size w w' ∧ w.heap.size ≤ g := by
  have hu := Try.underlying47
  have HR0 := Aside0.mk hr0
  have HC0 := Aside0.mk hc0
  clear hr0 hc0
  go_enter Try.func16, Try.ntmps16
  go_wp2_with (first | ((with_reducible refine gate_dst (N := 5) rfl ?_); refine box_event ?hg (N := 5) ?hd (cs := #[.slice A0 l0.length c0, .bool false]) (t := 47) ?hr ?_; (case hd => rfl); (case hg => rfl); (case hr => first | (go_simp; done) | (go_simp; rfl)); intro g hg w2 hbox hb; have n1_ := Aside0.mk hbox; have n2_ := Aside0.mk hb; have n3_ := Aside0.mk hg; clear hg hbox hb))
  go_ret
  exact ⟨_, rfl, ⟨A0, c0, n1_.out, HC0.out, Kd.C_below HR0.out n2_.out, fun ad e hn => Kd.C_lt (e ▸ HR0.out) hn (by decide), by rw [n3_.out]; exact Nat.lt_irrefl _⟩, n2_.out, by rw [n3_.out]; exact Nat.le_refl _⟩

theorem left_calls (P : Nat → Prop) (w : World) (g : Nat) (l : List Int) (bad : Bool) (hI : Rd 47 P w g l bad) :
    Calls Try.prog 18 #[.pointer (some ⟨g, 0, none⟩)] w fun e w' => e = .returned (.int .i64 (l.length : Int)) ∧ w = w' := by
  obtain ⟨A, c, hblk, hc, hr, hP, hg⟩ := hI
  have hc0 : w.cell? ⟨g, 0, none⟩ = some (.slice A l.length c) := blk_cell hblk 0
  clear hblk hg hc hr hP
  go_enter Try.func18, Try.ntmps18
  go_wp2
  go_ret
  exact ⟨rfl, rfl⟩

theorem bad_calls (P : Nat → Prop) (w : World) (g : Nat) (l : List Int) (bad : Bool) (hI : Rd 47 P w g l bad) :
    Calls Try.prog 19 #[.pointer (some ⟨g, 0, none⟩)] w fun e w' => e = .returned (.bool bad) ∧ w = w' := by
  obtain ⟨A, c, hblk, hc, hr, hP, hg⟩ := hI
  have hc1 : w.cell? ⟨g, 1, none⟩ = some (.bool bad) := blk_cell hblk 1
  clear hblk hg hc hr hP
  go_enter Try.func19, Try.ntmps19
  go_wp2
  go_ret
  exact ⟨rfl, rfl⟩

/-- What a reader is, behind a number. -/
def aft (l : List Int) : List Int := match dec l with | none => [] | some q => q.2
def numOf (l : List Int) : Int := match dec l with | none => 0 | some q => q.1
def badOf (l : List Int) (bad : Bool) : Bool := bad || (dec l).isNone

theorem num_calls (P : Nat → Prop) (w : World) (g : Nat) (l : List Int) (bad : Bool) (hI : Rd 47 P w g l bad) (hb : isBytes l) :
    Calls Try.prog 17 #[.pointer (some ⟨g, 0, none⟩)] w fun e w' => e = .returned (.int .i64 (numOf l)) ∧ Rd 47 P w' g (aft l) (badOf l bad) ∧ Below g w w' ∧ KeepBut w w' g none := by
  have HN := hI.len
  have HI0 := Aside0.mk hI
  obtain ⟨A, c, hblk, hc, hr, hP, hg⟩ := hI
  have hc0 : w.cell? ⟨g, 0, none⟩ = some (.slice A l.length c) := blk_cell hblk 0
  have HK := Aside0.mk hblk
  have HG := Aside0.mk hg
  have HC := Aside0.mk hc
  have HR := Aside0.mk hr
  have HP := Aside0.mk hP
  have HBY := Aside0.mk hb
  clear hblk hr hg hb hc hP
  go_enter Try.func17, Try.ntmps17
  go_upto_region 2 with (fail)
  obtain ⟨m, hm1⟩ : ∃ m : Nat, m = min 10 l.length := ⟨min 10 l.length, rfl⟩
  have HM1 := Aside0.mk hm1
  clear hm1
  go_cut [11, 12] (fun v11 v12 wc => v11 = .int .i64 (m : Int) ∧ v12 = .int .i64 0 ∧ w = wc)
  case first =>
    go_wp2
    all_goals go_meet
    case rel => exact ⟨by have := HM1.out; congr 1; omega, rfl, rfl⟩
    case rel => exact ⟨by have := HM1.out; congr 1; omega, rfl, rfl⟩
  case rest =>
  obtain ⟨rfl, rfl, rfl⟩ := hcut
  go_wp2_with fail
  go_loopg [3, 12] m (fun k v3 v12 w' => ∃ i u : Nat, v12 = .int .i64 (i : Int) ∧ v3 = .int .u64 (u : Int) ∧ Aside0 (i + k = m) ∧ Aside0 (allMore l i) ∧ Aside0 (i ≤ 9 → u = valU (l.take i)) ∧ Aside0 (u < 18446744073709551616) ∧ Drawn0 w w')
  case atStart => exact ⟨0, 0, rfl, rfl, ⟨by omega⟩, ⟨allMore_zero _⟩, ⟨fun _ => rfl⟩, ⟨by omega⟩, Drawn0.refl _⟩
  case round =>
    obtain ⟨i, u, rfl, rfl, HE, HM, HU, HU2, ⟨m1, rfl⟩⟩ := hrel
    have hu2 := HU2.out
    have hm10 : m ≤ 10 := by have := HM1.out; omega
    have hml : m ≤ l.length := by have := HM1.out; omega
    by_cases hlt : i < m
    · have hg := getD_bytes HBY.out i
      obtain ⟨ad, rfl, hx⟩ := Kd.at_int HR.out (i : Int) (by omega) (by omega)
      rw [Int.toNat_natCast] at hx
      obtain ⟨d, hd0⟩ : ∃ d, d = rd l (i : Int) := ⟨_, rfl⟩
      have hd1 : l.getD i 0 = d := by rw [hd0]; rfl
      rw [← hd0] at hx
      have HD := Aside0.mk hd1
      clear hd0
      rw [hd1] at hg
      clear hd1
      have hb1 : decide ((i : Int) < (m : Int)) = true := decide_eq_true (by omega)
      obtain ⟨u', hor, hu', hst⟩ := or_step (u := u) (i := i) hu2 hg.1 hg.2
      have HST := Aside0.mk hst
      have hvl := valU_take_lt l i (by omega)
      have HVL := Aside0.mk hvl
      clear hst hvl
      by_cases h128 : 128 ≤ d
      · have hd : decide ((128 : Int) ≤ d) = true := decide_eq_true h128
        go_wp2_with fail
        go_roundg (m - (i + 1))
        case measure => have := HE.out; omega
        case rel =>
          refine ⟨i + 1, u', by go_num, rfl, ⟨by omega⟩, ⟨allMore_succ HM.out (by rw [HD.out]; exact h128)⟩, ⟨fun h => ?_⟩, ⟨hu'⟩, by repeat (first | exact Drawn0.refl _ | apply Drawn0.step)⟩
          rw [valU_take l i (by omega), HD.out, ← HU.out (by omega)]
          exact HST.out (by rw [HU.out (by omega)]; exact HVL.out) (.inl (by omega))
      · have hd : decide ((128 : Int) ≤ d) = false := decide_eq_false h128
        have hd' : d < 128 := by omega
        have hf0 : w.frozen? ⟨g, 0, none⟩ = false := blk_frozen HK.out 0
        obtain ⟨i0, hi0⟩ : ∃ i0, Try.prog.info? 5 = some i0 ∧ i0.size = 1 := by obtain ⟨i0, h1, h2⟩ := Option.map_eq_some_iff.1 size_u8; exact ⟨i0, h1, h2⟩
        obtain ⟨A', hcut, hA', hAb⟩ := cutL (P := Try.prog) 23 5 .i64 Try.underlying23 hi0.1 hi0.2 (some ad) l.length c (i + 1) (by omega)
        have hcut1 : ∀ W : World, (Instr.slice 23 (.slice (some ad) l.length c) (some (.int .i64 ((i : Int) + 1))) none none).run Try.prog W = .ok (.slice A' (l.length - (i + 1)) (c - (i + 1))) W := hcut
        have HA := Aside0.mk (hA' w l HC.out HR.out)
        have HAB := Aside0.mk hAb
        have hz := unzz_code u' hu'
        clear hcut hA' hi0 hAb
        by_cases hz : d = 0
        · have e1 : (d == 0) = true := beq_iff_eq.mpr hz
          by_cases hi0 : 0 < i
          · have e2 : decide ((0 : Int) < (i : Int)) = true := decide_eq_true (by omega)
            have hn : dec l = none := dec_bad HBY.out HM.out (by omega) (by omega) (by rw [HD.out]; exact hd') (.inl (by rw [HD.out]; exact ⟨hz, hi0⟩))
            have HN1 := Aside0.mk hn
            clear hn hz
            try clear h9
            go_wp2_with (first | (go_at_call 24; refine (fail_calls P _ g l bad (Rd.drewN HI0.out m1)).mono ?_; rintro e w2 ⟨rfl, hI2, hb2, hk2⟩; have n1_ := Aside0.mk hI2; have n2_ := Aside0.mk hb2; have n3_ := Aside0.mk hk2; clear hI2 hb2 hk2))
            go_ret
            refine ⟨ret_i64 (by unfold numOf; rw [HN1.out]), by unfold aft badOf; rw [HN1.out]; simpa using n1_.out, (pw_below_drewN (Below.refl g w) m1).trans n2_.out, n3_.out⟩
          · have e2 : decide ((0 : Int) < (i : Int)) = false := decide_eq_false (by omega)
            have e3 : ((i : Int) == 9) = false := beq_eq_false_iff_ne.mpr (by omega)
            have hy : dec l = some (unzz (valU (l.take (i + 1))), l.drop (i + 1)) := dec_hit HBY.out HM.out (by omega) (by omega) (by rw [HD.out]; exact hd') (by omega) (by omega)
            have hy2 : u' = valU (l.take (i + 1)) := by
              rw [valU_take l i (by omega), HD.out, ← HU.out (by omega)]
              exact HST.out (by rw [HU.out (by omega)]; exact HVL.out) (by omega)
            have HY := Aside0.mk hy
            have HY2 := Aside0.mk hy2
            clear hy hy2 hz
            try clear h9
            go_wp2
            go_ret
            refine ⟨ret_i64 (by unfold numOf; rw [HY.out, HY2.out]), ?_, belowSet (pw_below_drewN (Below.refl g w) m1) _, (KeepBut.refl w g none).set_ 0 _⟩
            have hs := blk_set (blk_drewN HK.out m1) 0 (.slice A' (l.length - (i + 1)) (c - (i + 1)))
            unfold aft badOf; rw [HY.out]
            have hbl : ∀ ad, A' = some ad → 0 < (l.drop (i + 1)).length → P ad.block := fun ad e hn => by
              obtain ⟨ad0, h1, h2⟩ := HAB.out ad e
              rw [h2]; exact HP.out ad0 h1 (by rw [List.length_drop] at hn; omega)
            exact ⟨A', c - (i + 1), by simpa using hs, by simp only [List.length_drop]; have := HC.out; omega, Kd.C_keep (0 : Int) (by simp only [List.length_drop]; exact HA.out) ((KeepBut.refl w g none).set_ 0 _) (fun ad e hn he => HG.out (he ▸ hbl ad e hn)), hbl, HG.out⟩
        · have e1 : (d == 0) = false := beq_eq_false_iff_ne.mpr hz
          by_cases h9 : i = 9
          · have e3 : ((i : Int) == 9) = true := beq_iff_eq.mpr (by omega)
            by_cases h1 : 1 < d
            · have e4 : decide ((1 : Int) < d) = true := decide_eq_true h1
              have hn : dec l = none := dec_bad HBY.out HM.out (by omega) (by omega) (by rw [HD.out]; exact hd') (.inr (by rw [HD.out]; exact ⟨h9, h1⟩))
              have HN1 := Aside0.mk hn
              clear hn hz
              try clear h9
              go_wp2_with (first | (go_at_call 24; refine (fail_calls P _ g l bad (Rd.drewN HI0.out m1)).mono ?_; rintro e w2 ⟨rfl, hI2, hb2, hk2⟩; have n1_ := Aside0.mk hI2; have n2_ := Aside0.mk hb2; have n3_ := Aside0.mk hk2; clear hI2 hb2 hk2))
              go_ret
              refine ⟨ret_i64 (by unfold numOf; rw [HN1.out]), by unfold aft badOf; rw [HN1.out]; simpa using n1_.out, (pw_below_drewN (Below.refl g w) m1).trans n2_.out, n3_.out⟩
            · have e4 : decide ((1 : Int) < d) = false := decide_eq_false h1
              have hy : dec l = some (unzz (valU (l.take (i + 1))), l.drop (i + 1)) := dec_hit HBY.out HM.out (by omega) (by omega) (by rw [HD.out]; exact hd') (by rw [HD.out]; omega) (by rw [HD.out]; omega)
              have hy2 : u' = valU (l.take (i + 1)) := by
                rw [valU_take l i (by omega), HD.out, ← HU.out (by omega)]
                exact HST.out (by rw [HU.out (by omega)]; exact HVL.out) (by omega)
              have HY := Aside0.mk hy
              have HY2 := Aside0.mk hy2
              clear hy hy2 hz
              try clear h9
              go_wp2
              go_ret
              refine ⟨ret_i64 (by unfold numOf; rw [HY.out, HY2.out]), ?_, belowSet (pw_below_drewN (Below.refl g w) m1) _, (KeepBut.refl w g none).set_ 0 _⟩
              have hs := blk_set (blk_drewN HK.out m1) 0 (.slice A' (l.length - (i + 1)) (c - (i + 1)))
              unfold aft badOf; rw [HY.out]
              have hbl : ∀ ad, A' = some ad → 0 < (l.drop (i + 1)).length → P ad.block := fun ad e hn => by
                obtain ⟨ad0, h1, h2⟩ := HAB.out ad e
                rw [h2]; exact HP.out ad0 h1 (by rw [List.length_drop] at hn; omega)
              exact ⟨A', c - (i + 1), by simpa using hs, by simp only [List.length_drop]; have := HC.out; omega, Kd.C_keep (0 : Int) (by simp only [List.length_drop]; exact HA.out) ((KeepBut.refl w g none).set_ 0 _) (fun ad e hn he => HG.out (he ▸ hbl ad e hn)), hbl, HG.out⟩
          · have e3 : ((i : Int) == 9) = false := beq_eq_false_iff_ne.mpr (by omega)
            have hy : dec l = some (unzz (valU (l.take (i + 1))), l.drop (i + 1)) := dec_hit HBY.out HM.out (by omega) (by omega) (by rw [HD.out]; exact hd') (by rw [HD.out]; omega) (by omega)
            have hy2 : u' = valU (l.take (i + 1)) := by
              rw [valU_take l i (by omega), HD.out, ← HU.out (by omega)]
              exact HST.out (by rw [HU.out (by omega)]; exact HVL.out) (by omega)
            have HY := Aside0.mk hy
            have HY2 := Aside0.mk hy2
            clear hy hy2 hz
            try clear h9
            go_wp2
            go_ret
            refine ⟨ret_i64 (by unfold numOf; rw [HY.out, HY2.out]), ?_, belowSet (pw_below_drewN (Below.refl g w) m1) _, (KeepBut.refl w g none).set_ 0 _⟩
            have hs := blk_set (blk_drewN HK.out m1) 0 (.slice A' (l.length - (i + 1)) (c - (i + 1)))
            unfold aft badOf; rw [HY.out]
            have hbl : ∀ ad, A' = some ad → 0 < (l.drop (i + 1)).length → P ad.block := fun ad e hn => by
              obtain ⟨ad0, h1, h2⟩ := HAB.out ad e
              rw [h2]; exact HP.out ad0 h1 (by rw [List.length_drop] at hn; omega)
            exact ⟨A', c - (i + 1), by simpa using hs, by simp only [List.length_drop]; have := HC.out; omega, Kd.C_keep (0 : Int) (by simp only [List.length_drop]; exact HA.out) ((KeepBut.refl w g none).set_ 0 _) (fun ad e hn he => HG.out (he ▸ hbl ad e hn)), hbl, HG.out⟩
    · have hb1 : decide ((i : Int) < (m : Int)) = false := decide_eq_false (by omega)
      have hn : dec l = none := dec_end HBY.out HM.out (by have := HE.out; omega) (by have := HE.out; omega) (by have := HM1.out; have := HE.out; omega)
      have HN1 := Aside0.mk hn
      clear hn
      go_wp2_with (first | (go_at_call 24; refine (fail_calls P _ g l bad (Rd.drewN HI0.out m1)).mono ?_; rintro e w2 ⟨rfl, hI2, hb2, hk2⟩; have n1_ := Aside0.mk hI2; have n2_ := Aside0.mk hb2; have n3_ := Aside0.mk hk2; clear hI2 hb2 hk2))
      go_ret
      refine ⟨ret_i64 (by unfold numOf; rw [HN1.out]), by unfold aft badOf; rw [HN1.out]; simpa using n1_.out, (pw_below_drewN (Below.refl g w) m1).trans n2_.out, n3_.out⟩
end Go.Proofs.Ytnkaighdajickaa.Num

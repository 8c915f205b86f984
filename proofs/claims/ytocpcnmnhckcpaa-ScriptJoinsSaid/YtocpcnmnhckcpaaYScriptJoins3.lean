/- Rows of texts that rise, the names of fields; the closures of event.May. What is wrong with an event: the walk of event.May. The contract of event.May, in the form that the printed functions ask. evcode.Take: what it answers, and its walk. The reference's rows of texts: all are tags: in closed form. Functions of the program, told as plain functions, with their walks: written by a program of this claim's out of the translation. What is wrong with an event, and whether two events are the same, as the reference says: in closed form. Events as bytes, and rows of events that are the same: in closed form. Events as bytes are told apart. What is taken is what was laid down: events, one and all. The contracts of name.May and name.MayTag, in the form that the printed functions ask. -/
import Derived.Shelf.Abstract
import Derived.Test.YtocpcnmnhckcpaaYScriptJoins1
import Derived.Test.YtocpcnmnhckcpaaYScriptJoins2
namespace Go.Proofs.Ytocpcnmnhckcpaa.Nam
open Go.RowKit Go.Proofs.YtocpcnmnhckcpaaW.PrintWords Go.Proofs.YtocpcnmnhckcpaaW.PrintLast Go.Proofs.YtocpcnmnhckcpaaW.PrintMore Go.Proofs.Ytocpcnmnhckcpaa.Num Go.Proofs.Ytocpcnmnhckcpaa.Prt
set_option linter.unusedVariables false
set_option linter.unusedSimpArgs false

theorem rise_loop (l : List ByteArray) (hl : l.length ≤ 9223372036854775807) : ∀ (d i k : Nat), i + 1 + d = l.length → d < k → event_rise.l0 k l l (l.length : Int) ((i + 1 : Nat) : Int) = some (riseB (l.drop i)) := by
  intro d
  induction d with
  | zero =>
    intro i k hi hk
    obtain ⟨k, rfl⟩ : ∃ m, k = m + 1 := ⟨k - 1, by omega⟩
    rw [event_rise.l0, if_neg (by omega), rise_end l i (by omega)]
  | succ d ih =>
    intro i k hi hk
    obtain ⟨k, rfl⟩ : ∃ m, k = m + 1 := ⟨k - 1, by omega⟩
    have e1 : wrap64 (((i + 1 : Nat) : Int) - 1) = (i : Int) := by rw [wrapI (by omega) (by omega)]; omega
    have e2 : wrap64 (((i + 1 : Nat) : Int) + 1) = ((i + 1 + 1 : Nat) : Int) := by rw [wrapI (by omega) (by omega)]; omega
    rw [event_rise.l0, if_pos (by omega), if_pos (by omega), if_pos (by omega), if_pos (by omega), e1, e2, if_pos (by omega), if_pos (by omega), rise_step l i (by omega)]
    have e3 : Op.bytesLess (rdOf ByteArray.empty l (i : Int)).toList (rdOf ByteArray.empty l ((i + 1 : Nat) : Int)).toList = lessS (l.getD i ByteArray.empty) (l.getD (i + 1) ByteArray.empty) := rfl
    rw [e3]
    cases hs : lessS (l.getD i ByteArray.empty) (l.getD (i + 1) ByteArray.empty) with
    | true => rw [if_pos rfl, ih (i + 1) k (by omega) (by omega)]; rfl
    | false => rw [if_neg (by decide)]; rfl
theorem rise_val (l : List ByteArray) (hl : l.length ≤ 9223372036854775807) : event_rise.f (l.length + 1) l = some (riseB l) := by
  unfold event_rise.f
  cases h : l.length with
  | zero =>
    obtain rfl := List.eq_nil_of_length_eq_zero h
    rfl
  | succ n =>
    have e2 : wrap64 (0 + 1) = ((0 + 1 : Nat) : Int) := by rw [wrapI (by omega) (by omega)]; rfl
    rw [event_rise.l0, if_pos (by omega), if_pos (by omega), if_pos (by omega), if_neg (by omega), e2, ← h, rise_loop l hl n 0 (l.length) (by omega) (by omega)]
    rfl
theorem names_loop (l : List S90) (hl : l.length < 8796093022208) : ∀ (d i k : Nat) (acc : List ByteArray), i + d = l.length → acc.length = i → d < k → event_names.l0 k acc l (l.length : Int) (i : Int) = some (acc ++ (l.drop i).map (·.f0)) := by
  intro d
  induction d with
  | zero =>
    intro i k acc hi ha hk
    obtain ⟨k, rfl⟩ : ∃ m, k = m + 1 := ⟨k - 1, by omega⟩
    rw [event_names.l0, if_neg (by omega), List.drop_eq_nil_of_le (by omega)]; simp
  | succ d ih =>
    intro i k acc hi ha hk
    obtain ⟨k, rfl⟩ : ∃ m, k = m + 1 := ⟨k - 1, by omega⟩
    have e2 : wrap64 ((i : Int) + 1) = ((i + 1 : Nat) : Int) := by rw [wrapI (by omega) (by omega)]; omega
    rw [event_names.l0, if_pos (by omega), if_pos (by omega), if_pos (by omega), if_pos (by omega), e2, ih (i + 1) k _ (by omega) (by simp [ha]) (by omega)]
    have e3 : l.drop i = rd_T90 l (i : Int) :: l.drop (i + 1) := by
      rw [List.drop_eq_getElem_cons (by omega)]
      unfold rd_T90
      rw [Int.toNat_natCast, List.getD_eq_getElem?_getD, List.getElem?_eq_getElem (by omega)]; rfl
    rw [e3]; simp
theorem names_val (l : List S90) (hl : l.length < 8796093022208) : event_names.f (l.length + 1) l = some (l.map (·.f0)) := by
  unfold event_names.f
  rw [show (0 : Int) = ((0 : Nat) : Int) from rfl, names_loop l hl l.length 0 (l.length + 1) [] (by omega) rfl (by omega)]; rfl
def overB (x : S90) : Bool := decide (x.f1 < -1099511627776 ∨ 1099511627776 < x.f1)
theorem over_val (x : S90) : event_May_1.f x.f0 x.f1 = some (overB x) := by
  unfold event_May_1.f overB
  split
  · rw [decide_eq_true (by omega)]
  · congr 1; rw [Bool.eq_iff_iff, decide_eq_true_iff, decide_eq_true_iff]; omega
theorem not_calls (G : Nat) (w : World) : Calls Try.prog 64 #[.func (.func G) #[] #[]] w fun e w' => ∃ g : Nat, e = .returned (.func (.func 84) #[] #[.pointer (some ⟨g, 0, none⟩)]) ∧ w'.cell? ⟨g, 0, none⟩ = some (.func (.func G) #[] #[]) ∧ g < w'.heap.size ∧ Below w.heap.size w w' := by
  go_enter Try.func64, Try.ntmps64
  go_wp2
  go_ret
  refine ⟨_, rfl, ?_, ?_, below_alloc (Below.refl _ _) _⟩
  · exact (blk_cell (heap_alloc_new w _) 0).trans rfl
  · exact blk_lt (heap_alloc_new w _)
theorem notTag (s : ByteArray) (g : Nat) (w : World) (hs : s.size ≤ 9223372036854775807) (hg : w.cell? ⟨g, 0, none⟩ = some (.func (.func 65) #[] #[])) :
    Calls Try.prog 84 #[.string s, .pointer (some ⟨g, 0, none⟩)] w fun e w' => e = .returned (.bool (!tagB s)) ∧ Below w.heap.size w w' := by
  have H := Aside0.mk (mayTag_calls s w hs)
  go_enter Try.func84, Try.ntmps84
  go_wp2_with fail
  refine H.out.mono ?_
  rintro e w2 ⟨rfl, hb⟩
  go_wp2
  go_ret
  exact ⟨rfl, hb⟩
theorem notTagC (l : List ByteArray) (A : Option Addr) (c : Nat) (g : Nat) (w : World) (hC : Kd.C Kd.string w A l.length l) (hs : ∀ s ∈ l, s.size ≤ 9223372036854775807) (hl : g < w.heap.size) (hg : w.cell? ⟨g, 0, none⟩ = some (.func (.func 65) #[] #[])) :
    Calls Try.prog 63 #[.slice A l.length c, .func (.func 84) #[] #[.pointer (some ⟨g, 0, none⟩)]] w fun e w' => e = .returned (.bool (l.any fun s => !tagB s)) ∧ Below w.heap.size w w' :=
  contStr (fun s => !tagB s) _ _ A c l w hC (enters_of Try.func84 (by kernel_rfl) rfl) (fun x hx w1 hb => notTag x g w1 (hs x hx) ((hb.cell hl).trans hg))
theorem notName (s : ByteArray) (g : Nat) (w : World) (hs : s.size ≤ 9223372036854775807) (hg : w.cell? ⟨g, 0, none⟩ = some (.func (.func 62) #[] #[])) :
    Calls Try.prog 84 #[.string s, .pointer (some ⟨g, 0, none⟩)] w fun e w' => e = .returned (.bool (!mayL (bytesOf s))) ∧ Below w.heap.size w w' := by
  have H := Aside0.mk (may_calls s w hs)
  go_enter Try.func84, Try.ntmps84
  go_wp2_with fail
  refine H.out.mono ?_
  rintro e w2 ⟨rfl, hb⟩
  go_wp2
  go_ret
  exact ⟨rfl, hb⟩
theorem notNameC (l : List ByteArray) (A : Option Addr) (c : Nat) (g : Nat) (w : World) (hC : Kd.C Kd.string w A l.length l) (hs : ∀ s ∈ l, s.size ≤ 9223372036854775807) (hl : g < w.heap.size) (hg : w.cell? ⟨g, 0, none⟩ = some (.func (.func 62) #[] #[])) :
    Calls Try.prog 63 #[.slice A l.length c, .func (.func 84) #[] #[.pointer (some ⟨g, 0, none⟩)]] w fun e w' => e = .returned (.bool (l.any fun s => !mayL (bytesOf s))) ∧ Below w.heap.size w w' :=
  contStr (fun s => !mayL (bytesOf s)) _ _ A c l w hC (enters_of Try.func84 (by kernel_rfl) rfl) (fun x hx w1 hb => notName x g w1 (hs x hx) ((hb.cell hl).trans hg))
theorem overC (l : List S90) (A : Option Addr) (c : Nat) (w : World) (hC : Kd.C k90 w A l.length l) :
    Calls Try.prog 67 #[.slice A l.length c, .func (.func 61) #[] #[]] w fun e w' => e = .returned (.bool (l.any overB)) ∧ Below w.heap.size w w' :=
  contFld overB _ A c l w hC (enters_of Try.func61 (by kernel_rfl) rfl) (fun x hx w1 hb => event_May_1.calls x.f0 x.f1 _ w1 (over_val x))
end Go.Proofs.Ytocpcnmnhckcpaa.Nam
namespace Go.Proofs.Ytocpcnmnhckcpaa.Nam
open Go.RowKit Go.Proofs.YtocpcnmnhckcpaaW.PrintWords Go.Proofs.YtocpcnmnhckcpaaW.PrintLast Go.Proofs.YtocpcnmnhckcpaaW.PrintMore Go.Proofs.Ytocpcnmnhckcpaa.Num Go.Proofs.Ytocpcnmnhckcpaa.Prt
set_option linter.unusedVariables false
set_option linter.unusedSimpArgs false

/-- What is wrong with an event. -/
def mayE (s t : ByteArray) (tags : List ByteArray) (fl : List S90) : Int :=
  if mayL (bytesOf s) = false ∨ mayL (bytesOf t) = false then 5 else if 6 < tags.length ∨ 4 < fl.length then 3
  else if (tags.any fun s => !tagB s) = true ∨ ((fl.map (·.f0)).any fun s => !mayL (bytesOf s)) = true then 5
  else if riseB tags = false ∨ riseB (fl.map (·.f0)) = false ∨ fl.any overB = true then 1 else 0
theorem fnAt_below {g : Nat} {w w1 : World} {v : Value} (h : g < w.heap.size ∧ w.cell? ⟨g, 0, none⟩ = some v) (hb : Below w.heap.size w w1) : g < w1.heap.size ∧ w1.cell? ⟨g, 0, none⟩ = some v :=
  ⟨Nat.lt_of_lt_of_le h.1 hb.size, (hb.cell h.1).trans h.2⟩
theorem notTagB (b : Bool) (l : List ByteArray) (h : (l.any fun s => !tagB s) = b) (A : Option Addr) (c : Nat) (g : Nat) (w : World) (hC : Kd.C Kd.string w A l.length l) (hs : ∀ s ∈ l, s.size ≤ 9223372036854775807) (hl : g < w.heap.size) (hg : w.cell? ⟨g, 0, none⟩ = some (.func (.func 65) #[] #[])) :
    Calls Try.prog 63 #[.slice A l.length c, .func (.func 84) #[] #[.pointer (some ⟨g, 0, none⟩)]] w fun e w' => e = .returned (.bool b) ∧ Below w.heap.size w w' := h ▸ notTagC l A c g w hC hs hl hg
theorem notNameB (b : Bool) (l : List ByteArray) (h : (l.any fun s => !mayL (bytesOf s)) = b) (A : Option Addr) (c : Nat) (g : Nat) (w : World) (hC : Kd.C Kd.string w A l.length l) (hs : ∀ s ∈ l, s.size ≤ 9223372036854775807) (hl : g < w.heap.size) (hg : w.cell? ⟨g, 0, none⟩ = some (.func (.func 62) #[] #[])) :
    Calls Try.prog 63 #[.slice A l.length c, .func (.func 84) #[] #[.pointer (some ⟨g, 0, none⟩)]] w fun e w' => e = .returned (.bool b) ∧ Below w.heap.size w w' := h ▸ notNameC l A c g w hC hs hl hg
open Go.Proofs.YtocpcnmnhckcpaaW.PrintLast
def D45.T7 : Bool × List (List Nat × List Nat) := (true, [([], []), ([0], [0]), ([], []), ([1, 2, 2], [1, 2]), ([3, 3], [3]), ([4], [4]), ([4, 4], [4]), ([5, 6, 6, 4], [4, 5, 6]), ([4, 7], [4, 7]), ([8, 7], [8])])
def D45.B7 : List Nat := [0, 1, 0, 7, 15, 31, 31, 127, 255, 511]
theorem D45.tab7 : rtab .any (opsOf Try.f45 7) = D45.T7 := by kernel_rfl
theorem D45.bits7 : waitsOk D45.T7.2 D45.B7 = true := by kernel_rfl
set_option maxHeartbeats 4000000 in
set_option maxRecDepth 100000 in
theorem eventMay_calls (s t : ByteArray) (A2 A3 : Option Addr) (c2 c3 : Nat) (l2 : List ByteArray) (l3 : List S90) (w : World) (hr2 : Kd.C Kd.string w A2 l2.length l2) (hc2 : l2.length ≤ c2) (hr3 : Kd.C k90 w A3 l3.length l3) (hc3 : l3.length ≤ c3)
    (hs : s.size ≤ 9223372036854775807) (ht : t.size ≤ 9223372036854775807) (hzt : ∀ x ∈ l2, x.size ≤ 9223372036854775807) (hzf : ∀ x ∈ l3, x.f0.size ≤ 9223372036854775807) (hl3 : l3.length < 8796093022208) :
    Calls Try.prog 45 #[.agg #[.string s, .string t, .slice A2 l2.length c2, .slice A3 l3.length c3]] w fun e w' => e = .returned (.int .i64 (mayE s t l2 l3)) ∧ Below w.heap.size w w' := by
  have HR2 := Aside0.mk hr2
  have HR3 := Aside0.mk hr3
  have HC2 := Aside0.mk hc2
  have HC3 := Aside0.mk hc3
  have HZT := Aside0.mk hzt
  have hm2 := Kd.C_max hr2
  have HB := Aside0.mk (Below.refl w.heap.size w)
  have hu31 := Try.underlying31
  obtain ⟨nm, hnm⟩ : ∃ nm : List ByteArray, nm = l3.map (·.f0) := ⟨_, rfl⟩
  have HNM := Aside0.mk hnm
  have HNV := Aside0.mk ((names_val l3 hl3).trans (congrArg some hnm.symm))
  have hln : nm.length = l3.length := by rw [hnm, List.length_map]
  have HZF : Aside0 (∀ x ∈ nm, x.size ≤ 9223372036854775807) := ⟨fun x hx => by rw [hnm] at hx; obtain ⟨y, hy, rfl⟩ := List.mem_map.1 hx; exact hzf y hy⟩
  obtain ⟨E, hE⟩ : ∃ E, E = mayE s t l2 l3 := ⟨_, rfl⟩
  rw [← hE]
  have HE := Aside0.mk hE
  have HLN := Aside0.mk hln
  clear hr2 hr3 hc2 hc3 hzt hzf hnm hE hln
  go_enter Try.func45, Try.ntmps45
  go_wp2_with (first | ((with_reducible refine gate_dst (N := 1) rfl ?_); refine box_event ?hg (N := 1) ?hd (cs := #[.string s, .string t, .slice A2 l2.length c2, .slice A3 l3.length c3]) (t := 31) ?hr ?_; (case hd => rfl); (case hg => rfl); (case hr => first | (go_simp; done) | (go_simp; rfl)); intro g hg w2 hbox hb; have n1_ := Aside0.mk hbox; have n2_ := Aside0.mk hb; clear HB hbox hg hb; have HX := n1_; have HB := n2_; clear n1_ n2_; have hx0 := blk_cell HX.out 0; have hx1 := blk_cell HX.out 1; have hx2 := blk_cell HX.out 2; have hx3 := blk_cell HX.out 3))
  refine (event_names.calls (l3.length + 1) A3 c3 l3 nm w2 (Kd.C_below HR3.out HB.out) HC3.out HNV.out).mono ?_
  rintro e w3 ⟨v3, rfl, ho, hb⟩
  obtain ⟨A4, c4, rfl, hc4, hC4⟩ := Kd.R_reads ho
  have HC4 := Aside0.mk hc4
  have HR4 := Aside0.mk hC4
  clear ho hc4 hC4 hx0 hx1 hx2 hx3
  have n1_ := Aside0.mk (below_step HB.out hb); have n2_ := Aside0.mk (blk_below HX.out hb); clear HB HX; have HB := n1_; have HX := n2_; clear n1_ n2_ hb
  have hx0 := blk_cell HX.out 0; have hx1 := blk_cell HX.out 1; have hx2 := blk_cell HX.out 2; have hx3 := blk_cell HX.out 3
  go_wp2_with fail
  refine (may_calls s _ hs).mono ?_
  rintro e w4a ⟨rfl, hb⟩
  have n1_ := Aside0.mk (below_step HB.out hb); have n2_ := Aside0.mk (blk_below HX.out hb); clear HB HX; have HB := n1_; have HX := n2_; clear n1_ n2_; have n1_ := Aside0.mk (Kd.C_below HR4.out hb); clear HR4; have HR4 := n1_; clear n1_ hb; clear hx0 hx1 hx2 hx3; have hx0 := blk_cell HX.out 0; have hx1 := blk_cell HX.out 1; have hx2 := blk_cell HX.out 2; have hx3 := blk_cell HX.out 3
  cases hm1 : mayL (bytesOf s) with
  | false =>
    go_wp2
    go_ret
    exact ⟨ret_i64 (HE.out.trans (by unfold mayE; rw [← HNM.out]; exact if_pos (.inl hm1))).symm, HB.out⟩
  | true =>
    go_wp2_with fail
    refine (may_calls t _ ht).mono ?_
    rintro e w5 ⟨rfl, hb⟩
    have n1_ := Aside0.mk (below_step HB.out hb); have n2_ := Aside0.mk (blk_below HX.out hb); clear HB HX; have HB := n1_; have HX := n2_; clear n1_ n2_; have n1_ := Aside0.mk (Kd.C_below HR4.out hb); clear HR4; have HR4 := n1_; clear n1_ hb; clear hx0 hx1 hx2 hx3; have hx0 := blk_cell HX.out 0; have hx1 := blk_cell HX.out 1; have hx2 := blk_cell HX.out 2; have hx3 := blk_cell HX.out 3
    cases hm2 : mayL (bytesOf t) with
    | false =>
      go_wp2
      go_ret
      exact ⟨ret_i64 (HE.out.trans (by unfold mayE; rw [← HNM.out]; exact if_pos (.inr hm2))).symm, HB.out⟩
    | true =>
      have H12 : Aside0 (E = if 6 < l2.length ∨ 4 < nm.length then 3 else if (l2.any fun s => !tagB s) = true ∨ (nm.any fun s => !mayL (bytesOf s)) = true then 5 else if riseB l2 = false ∨ riseB nm = false ∨ l3.any overB = true then 1 else 0) := ⟨by rw [HE.out, HLN.out]; unfold mayE; rw [← HNM.out, if_neg (by rw [hm1, hm2]; simp)]⟩
      clear HE hm1 hm2
      by_cases h6 : 6 < l2.length
      · have hd : decide ((6 : Int) < (l2.length : Int)) = true := decide_eq_true (by omega)
        have HG := Aside0.mk (H12.out.trans (if_pos (.inl h6)))
        go_wp2
        go_ret
        exact ⟨ret_i64 HG.out.symm, HB.out⟩
      have hd6 : decide ((6 : Int) < (l2.length : Int)) = false := decide_eq_false (by omega)
      by_cases h4 : 4 < nm.length
      · have hd : decide ((4 : Int) < (nm.length : Int)) = true := decide_eq_true (by omega)
        have HG := Aside0.mk (H12.out.trans (if_pos (.inr h4)))
        go_wp2
        go_ret
        exact ⟨ret_i64 HG.out.symm, HB.out⟩
      have hd4 : decide ((4 : Int) < (nm.length : Int)) = false := decide_eq_false (by omega)
      have H34 := Aside0.mk (H12.out.trans (if_neg (by omega)))
      clear H12
      go_wp2_with fail
      have HBB := Aside0.mk (below_drew (Below.refl w5.heap.size w5))
      cases h7 : (l2.any fun s => !tagB s) with
      | true =>
        have HT7 := Aside0.mk h7
        have HG := Aside0.mk (H34.out.trans (if_pos (.inl h7)))
        clear h7 hx0 hx1 hx2 hx3
        refine start_ (n := 10) (S := fun w' => True) (ds := []) #[false, false, false, false, false, false, false, false, false, false] (by kernel_rfl) rfl rfl trivial (fun hHeld => ?_); refine with_tabW D45.tab7 D45.bits7 (fun HT_ HW_ => ?_)
        refine inv_at [0, 1, 2, 3, 4, 5, 6, 7, 8, 9] (fun a0_ b a w' => ∃ (g32 : Nat) (m2_ : Value), a = putSel a0_ b [(0, 30, .pointer (some ⟨g, 2, none⟩)), (1, 31, .slice A2 l2.length c2), (2, 32, m2_), (3, 33, .bool true), (4, 34, .bool true), (5, 35, undef), (6, 36, undef), (7, 37, undef), (8, 38, (Value.bool true)), (9, 29, (Value.bool true))] ∧ (Below w5.heap.size w5 w') ∧ (b 2 = true → (g32 < w'.heap.size ∧ w'.cell? ⟨g32, 0, none⟩ = some (.func (.func 65) #[] #[]))) ∧ (b 2 = true → (m2_ : Value) = .func (.func 84) #[] #[.pointer (some ⟨g32, 0, none⟩)])) HT_.out HW_.out (by kernel_rfl) (by kernel_rfl) ?_ ?_ ?_
        · exact ⟨0, .bool false, by simp only [putSel, Bool.false_eq_true, if_false], HBB.out, fun h_ => absurd h_ (by decide), fun h_ => absurd h_ (by decide)⟩
        · clear HT_ HW_ hHeld
          clear HBB
          refine steps_cons ?_ ?_
          · intro b a w' hI_ hb_ hon hoff
            refine ⟨_, rfl, fun K hK => ?_⟩
            obtain ⟨g32, m2_, ha, Q_HBB, Q_HQ32, Q_X2_⟩ := hI_
            have e1 : a.tmps[1]? = some (.pointer (some ⟨g, 0, none⟩)) := by rw [ha]; exact (putSel_off rfl).trans rfl
            replace ha := Aside0.mk ha
            have HBB := Aside0.mk Q_HBB
            refine value_ (w1 := w') (v := .pointer (some ⟨g, 2, none⟩)) (by rfl) rfl ?_ ?_
            · go_simp
              (try simp only [i64_w])
              try (first | rfl | assumption)
            refine hK.out _ _ ⟨g32, m2_, (by rw [ha.out]; exact putSel_upk 0 hb_ rfl rfl rfl), Q_HBB, Q_HQ32, Q_X2_⟩
          refine steps_cons ?_ ?_
          · intro b a w' hI_ hb_ hon hoff
            refine ⟨_, rfl, fun K hK => ?_⟩
            obtain ⟨g32, m2_, ha, Q_HBB, Q_HQ32, Q_X2_⟩ := hI_
            have e30 : a.tmps[30]? = some (.pointer (some ⟨g, 2, none⟩)) := by rw [ha]; exact putSel_on (e := (0, 30, .pointer (some ⟨g, 2, none⟩))) 0 rfl rfl (hon 0 (by kernel_rfl)) rfl
            replace ha := Aside0.mk ha
            have HBB := Aside0.mk Q_HBB
            have hx2 := (HBB.out.cell (blk_lt HX.out)).trans (blk_cell HX.out 2)
            refine value_ (w1 := w') (v := .slice A2 l2.length c2) (by rfl) rfl ?_ ?_
            · go_simp
              (try simp only [i64_w])
              try (first | rfl | assumption)
            refine hK.out _ _ ⟨g32, m2_, (by rw [ha.out]; exact putSel_upk 1 hb_ rfl rfl rfl), Q_HBB, Q_HQ32, Q_X2_⟩
          refine steps_cons ?_ ?_
          · intro b a w' hI_ hb_ hon hoff
            refine ⟨_, rfl, fun K hK => ?_⟩
            obtain ⟨g32, m2_, ha, Q_HBB, Q_HQ32, Q_X2_⟩ := hI_
            replace ha := Aside0.mk ha
            have HBB := Aside0.mk Q_HBB
            refine goes_ Try.func64 (by kernel_rfl) rfl #[.func (.func 65) #[] #[]] (by rfl) rfl rfl (by first | (simp only [List.map_toArray, List.map_cons, List.map_nil, Act.eval, Array.getD_eq_getD_getElem?, Option.getD_some]; done) | (simp only [List.map_toArray, List.map_cons, List.map_nil, Act.eval, Array.getD_eq_getD_getElem?, Option.getD_some]; rfl)) ?_
            with_reducible refine (not_calls 65 _).mono ?_
            rintro e w3 ⟨g_, rfl, hq_, hl_, hb_2⟩
            refine ⟨_, rfl, ?_⟩
            refine hK.out _ _ ⟨g_, (.func (.func 84) #[] #[.pointer (some ⟨g_, 0, none⟩)]), (by rw [ha.out]; exact putSel_upk 2 hb_ rfl rfl rfl), below_step HBB.out hb_2, fun _ => ⟨hl_, hq_⟩, fun _ => rfl⟩
          refine steps_cons ?_ ?_
          · intro b a w' hI_ hb_ hon hoff
            refine ⟨_, rfl, fun K hK => ?_⟩
            obtain ⟨g32, m2_, ha, Q_HBB, Q_HQ32, Q_X2_⟩ := hI_
            have e31 : a.tmps[31]? = some (.slice A2 l2.length c2) := by rw [ha]; exact putSel_on (e := (1, 31, .slice A2 l2.length c2)) 1 rfl rfl (hon 1 (by kernel_rfl)) rfl
            have e32 : a.tmps[32]? = some (m2_) := by rw [ha]; exact putSel_on (e := (2, 32, m2_)) 2 rfl rfl (hon 2 (by kernel_rfl)) rfl
            rw [Q_X2_ (hon 2 (by kernel_rfl))] at e32
            replace ha := Aside0.mk ha
            have HBB := Aside0.mk Q_HBB
            have HQ32 := Aside0.mk (Q_HQ32 (hon 2 (by kernel_rfl)))
            refine goes_ Try.func63 (by kernel_rfl) rfl #[.slice A2 l2.length c2, .func (.func 84) #[] #[.pointer (some ⟨g32, 0, none⟩)]] (by rfl) rfl rfl (by first | (simp only [List.map_toArray, List.map_cons, List.map_nil, Act.eval, Array.getD_eq_getD_getElem?, Option.getD_some, e31, e32]; done) | (simp only [List.map_toArray, List.map_cons, List.map_nil, Act.eval, Array.getD_eq_getD_getElem?, Option.getD_some, e31, e32]; rfl)) ?_
            with_reducible refine (notTagB true l2 HT7.out A2 c2 g32 _ (Kd.C_below (Kd.C_below HR2.out HB.out) HBB.out) HZT.out HQ32.out.1 HQ32.out.2).mono ?_
            rintro e w3 ⟨rfl, hb_2⟩
            refine ⟨_, rfl, ?_⟩
            refine hK.out _ _ ⟨g32, m2_, (by rw [ha.out]; exact putSel_upk 3 hb_ rfl rfl rfl), below_step HBB.out hb_2, fun _ => (fnAt_below HQ32.out hb_2), Q_X2_⟩
          refine steps_cons ?_ ?_
          · intro b a w' hI_ hb_ hon hoff
            refine ⟨_, rfl, fun K hK => ?_⟩
            obtain ⟨g32, m2_, ha, Q_HBB, Q_HQ32, Q_X2_⟩ := hI_
            have e33 : a.tmps[33]? = some (.bool true) := by rw [ha]; exact putSel_on (e := (3, 33, .bool true)) 3 rfl rfl (hon 3 (by kernel_rfl)) rfl
            replace ha := Aside0.mk ha
            have HBB := Aside0.mk Q_HBB
            have HQ32 := Aside0.mk (Q_HQ32 (hon 2 (by kernel_rfl)))
            refine value_ (w1 := w') (v := .bool true) (by rfl) rfl ?_ ?_
            · go_simp
              (try simp only [i64_w])
              try (first | rfl | assumption)
            refine hK.out _ _ ⟨g32, m2_, (by rw [ha.out]; exact putSel_upk 4 hb_ rfl rfl rfl), Q_HBB, Q_HQ32, Q_X2_⟩
          refine steps_cons ?_ ?_
          · intro b a w' hI_ hb_ hon hoff
            refine ⟨_, rfl, fun K hK => ?_⟩
            obtain ⟨g32, m2_, ha, Q_HBB, Q_HQ32, Q_X2_⟩ := hI_
            have e34 : a.tmps[34]? = some (.bool true) := by rw [ha]; exact putSel_on (e := (4, 34, .bool true)) 4 rfl rfl (hon 4 (by kernel_rfl)) rfl
            replace ha := Aside0.mk ha
            have HBB := Aside0.mk Q_HBB
            have HQ32 := Aside0.mk (Q_HQ32 (hon 2 (by kernel_rfl)))
            refine off_ (wanted_off rfl rfl rfl (e34.trans (by first | rfl | (simp [*]; done)))) ?_
            refine hK.out _ _ ⟨g32, m2_, (by rw [ha.out]; exact putSel_upk 5 hb_ rfl rfl rfl), Q_HBB, Q_HQ32, Q_X2_⟩
          refine steps_cons ?_ ?_
          · intro b a w' hI_ hb_ hon hoff
            refine ⟨_, rfl, fun K hK => ?_⟩
            obtain ⟨g32, m2_, ha, Q_HBB, Q_HQ32, Q_X2_⟩ := hI_
            have e34 : a.tmps[34]? = some (.bool true) := by rw [ha]; exact putSel_on (e := (4, 34, .bool true)) 4 rfl rfl (hon 4 (by kernel_rfl)) rfl
            replace ha := Aside0.mk ha
            have HBB := Aside0.mk Q_HBB
            have HQ32 := Aside0.mk (Q_HQ32 (hon 2 (by kernel_rfl)))
            refine off_ (wanted_off rfl rfl rfl (e34.trans (by first | rfl | (simp [*]; done)))) ?_
            refine hK.out _ _ ⟨g32, m2_, (by rw [ha.out]; exact putSel_upk 6 hb_ rfl rfl rfl), Q_HBB, Q_HQ32, Q_X2_⟩
          refine steps_cons ?_ ?_
          · intro b a w' hI_ hb_ hon hoff
            refine ⟨_, rfl, fun K hK => ?_⟩
            obtain ⟨g32, m2_, ha, Q_HBB, Q_HQ32, Q_X2_⟩ := hI_
            have e34 : a.tmps[34]? = some (.bool true) := by rw [ha]; exact putSel_on (e := (4, 34, .bool true)) 4 rfl rfl (hon 4 (by kernel_rfl)) rfl
            replace ha := Aside0.mk ha
            have HBB := Aside0.mk Q_HBB
            have HQ32 := Aside0.mk (Q_HQ32 (hon 2 (by kernel_rfl)))
            refine off_ (wanted_off rfl rfl rfl (e34.trans (by first | rfl | (simp [*]; done)))) ?_
            refine hK.out _ _ ⟨g32, m2_, (by rw [ha.out]; exact putSel_upk 7 hb_ rfl rfl rfl), Q_HBB, Q_HQ32, Q_X2_⟩
          refine steps_cons ?_ ?_
          · intro b a w' hI_ hb_ hon hoff
            refine ⟨_, rfl, fun K hK => ?_⟩
            obtain ⟨g32, m2_, ha, Q_HBB, Q_HQ32, Q_X2_⟩ := hI_
            have e34 : a.tmps[34]? = some (.bool true) := by rw [ha]; exact putSel_on (e := (4, 34, .bool true)) 4 rfl rfl (hon 4 (by kernel_rfl)) rfl
            have e37 : a.tmps[37]? = some (undef) := by rw [ha]; exact putSel_on (e := (7, 37, undef)) 7 rfl rfl (hon 7 (by kernel_rfl)) rfl
            replace ha := Aside0.mk ha
            have HBB := Aside0.mk Q_HBB
            have HQ32 := Aside0.mk (Q_HQ32 (hon 2 (by kernel_rfl)))
            refine value_ (w1 := w') (v := (Value.bool true)) (by rfl) rfl ?_ ?_
            · go_simp
              (try simp only [i64_w])
              try (first | rfl | assumption)
            refine hK.out _ _ ⟨g32, m2_, (by rw [ha.out]; exact putSel_upk 8 hb_ rfl rfl rfl), Q_HBB, Q_HQ32, Q_X2_⟩
          refine steps_cons ?_ ?_
          · intro b a w' hI_ hb_ hon hoff
            refine ⟨_, rfl, fun K hK => ?_⟩
            obtain ⟨g32, m2_, ha, Q_HBB, Q_HQ32, Q_X2_⟩ := hI_
            have e38 : a.tmps[38]? = some ((Value.bool true)) := by rw [ha]; exact putSel_on (e := (8, 38, (Value.bool true))) 8 rfl rfl (hon 8 (by kernel_rfl)) rfl
            replace ha := Aside0.mk ha
            have HBB := Aside0.mk Q_HBB
            have HQ32 := Aside0.mk (Q_HQ32 (hon 2 (by kernel_rfl)))
            refine value_ (w1 := w') (v := (Value.bool true)) (by rfl) rfl ?_ ?_
            · go_simp
              (try simp only [i64_w])
              try (first | rfl | assumption)
            refine hK.out _ _ ⟨g32, m2_, (by rw [ha.out]; exact putSel_upk 9 hb_ rfl rfl rfl), Q_HBB, Q_HQ32, Q_X2_⟩
          exact steps_nil
        rintro b a wz hall ⟨g32, m2_, ha, Q_HBB, Q_HQ32, Q_X2_⟩
        clear HBB
        have hb0_ := hall 0 (by kernel_rfl)
        have hb1_ := hall 1 (by kernel_rfl)
        have hb2_ := hall 2 (by kernel_rfl)
        have hb3_ := hall 3 (by kernel_rfl)
        have hb4_ := hall 4 (by kernel_rfl)
        have hb5_ := hall 5 (by kernel_rfl)
        have hb6_ := hall 6 (by kernel_rfl)
        have hb7_ := hall 7 (by kernel_rfl)
        have hb8_ := hall 8 (by kernel_rfl)
        have hb9_ := hall 9 (by kernel_rfl)
        subst ha
        obtain rfl := Q_X2_ hb2_
        simp only [putSel, hb0_, hb1_, hb2_, hb3_, hb4_, hb5_, hb6_, hb7_, hb8_, hb9_, if_true, Act.put, List.setIfInBounds_toArray, List.set_cons_zero, List.set_cons_succ]
        have HBB := Aside0.mk Q_HBB
        clear Q_HBB
        have HQ32 := Aside0.mk (Q_HQ32 hb2_)
        clear Q_HQ32
        clear hall hb0_ hb1_ hb2_ hb3_ hb4_ hb5_ hb6_ hb7_ hb8_ hb9_
        go_wp2
        go_ret
        exact ⟨ret_i64 HG.out.symm, below_step HB.out HBB.out⟩
      | false =>
        have HT7 := Aside0.mk h7
        cases h8 : (nm.any fun s => !mayL (bytesOf s)) with
        | true =>
          have HF7 := Aside0.mk h8
          have HG := Aside0.mk (H34.out.trans (if_pos (.inr h8)))
          clear h7 h8 hx0 hx1 hx2 hx3
          refine start_ (n := 10) (S := fun w' => True) (ds := []) #[false, false, false, false, false, false, false, false, false, false] (by kernel_rfl) rfl rfl trivial (fun hHeld => ?_); refine with_tabW D45.tab7 D45.bits7 (fun HT_ HW_ => ?_)
          refine inv_at [0, 1, 2, 3, 4, 5, 6, 7, 8, 9] (fun a0_ b a w' => ∃ (g32 : Nat) (g36 : Nat) (m2_ : Value) (m6_ : Value), a = putSel a0_ b [(0, 30, .pointer (some ⟨g, 2, none⟩)), (1, 31, .slice A2 l2.length c2), (2, 32, m2_), (3, 33, .bool false), (4, 34, .bool false), (5, 35, .slice A4 nm.length c4), (6, 36, m6_), (7, 37, .bool true), (8, 38, .bool true), (9, 29, .bool true)] ∧ (Below w5.heap.size w5 w') ∧ (b 2 = true → (g32 < w'.heap.size ∧ w'.cell? ⟨g32, 0, none⟩ = some (.func (.func 65) #[] #[]))) ∧ (b 6 = true → (g36 < w'.heap.size ∧ w'.cell? ⟨g36, 0, none⟩ = some (.func (.func 62) #[] #[]))) ∧ (b 2 = true → (m2_ : Value) = .func (.func 84) #[] #[.pointer (some ⟨g32, 0, none⟩)]) ∧ (b 6 = true → (m6_ : Value) = .func (.func 84) #[] #[.pointer (some ⟨g36, 0, none⟩)])) HT_.out HW_.out (by kernel_rfl) (by kernel_rfl) ?_ ?_ ?_
          · exact ⟨0, 0, .bool false, .bool false, by simp only [putSel, Bool.false_eq_true, if_false], HBB.out, fun h_ => absurd h_ (by decide), fun h_ => absurd h_ (by decide), fun h_ => absurd h_ (by decide), fun h_ => absurd h_ (by decide)⟩
          · clear HT_ HW_ hHeld
            clear HBB
            refine steps_cons ?_ ?_
            · intro b a w' hI_ hb_ hon hoff
              refine ⟨_, rfl, fun K hK => ?_⟩
              obtain ⟨g32, g36, m2_, m6_, ha, Q_HBB, Q_HQ32, Q_HQ36, Q_X2_, Q_X6_⟩ := hI_
              have e1 : a.tmps[1]? = some (.pointer (some ⟨g, 0, none⟩)) := by rw [ha]; exact (putSel_off rfl).trans rfl
              replace ha := Aside0.mk ha
              have HBB := Aside0.mk Q_HBB
              refine value_ (w1 := w') (v := .pointer (some ⟨g, 2, none⟩)) (by rfl) rfl ?_ ?_
              · go_simp
                (try simp only [i64_w])
                try (first | rfl | assumption)
              refine hK.out _ _ ⟨g32, g36, m2_, m6_, (by rw [ha.out]; exact putSel_upk 0 hb_ rfl rfl rfl), Q_HBB, Q_HQ32, fun h0_ => absurd ((hoff 6 (by kernel_rfl)).symm.trans h0_) (by decide), Q_X2_, fun h0_ => absurd ((hoff 6 (by kernel_rfl)).symm.trans h0_) (by decide)⟩
            refine steps_cons ?_ ?_
            · intro b a w' hI_ hb_ hon hoff
              refine ⟨_, rfl, fun K hK => ?_⟩
              obtain ⟨g32, g36, m2_, m6_, ha, Q_HBB, Q_HQ32, Q_HQ36, Q_X2_, Q_X6_⟩ := hI_
              have e30 : a.tmps[30]? = some (.pointer (some ⟨g, 2, none⟩)) := by rw [ha]; exact putSel_on (e := (0, 30, .pointer (some ⟨g, 2, none⟩))) 0 rfl rfl (hon 0 (by kernel_rfl)) rfl
              replace ha := Aside0.mk ha
              have HBB := Aside0.mk Q_HBB
              have hx2 := (HBB.out.cell (blk_lt HX.out)).trans (blk_cell HX.out 2)
              refine value_ (w1 := w') (v := .slice A2 l2.length c2) (by rfl) rfl ?_ ?_
              · go_simp
                (try simp only [i64_w])
                try (first | rfl | assumption)
              refine hK.out _ _ ⟨g32, g36, m2_, m6_, (by rw [ha.out]; exact putSel_upk 1 hb_ rfl rfl rfl), Q_HBB, Q_HQ32, fun h0_ => absurd ((hoff 6 (by kernel_rfl)).symm.trans h0_) (by decide), Q_X2_, fun h0_ => absurd ((hoff 6 (by kernel_rfl)).symm.trans h0_) (by decide)⟩
            refine steps_cons ?_ ?_
            · intro b a w' hI_ hb_ hon hoff
              refine ⟨_, rfl, fun K hK => ?_⟩
              obtain ⟨g32, g36, m2_, m6_, ha, Q_HBB, Q_HQ32, Q_HQ36, Q_X2_, Q_X6_⟩ := hI_
              replace ha := Aside0.mk ha
              have HBB := Aside0.mk Q_HBB
              refine goes_ Try.func64 (by kernel_rfl) rfl #[.func (.func 65) #[] #[]] (by rfl) rfl rfl (by first | (simp only [List.map_toArray, List.map_cons, List.map_nil, Act.eval, Array.getD_eq_getD_getElem?, Option.getD_some]; done) | (simp only [List.map_toArray, List.map_cons, List.map_nil, Act.eval, Array.getD_eq_getD_getElem?, Option.getD_some]; rfl)) ?_
              with_reducible refine (not_calls 65 _).mono ?_
              rintro e w3 ⟨g_, rfl, hq_, hl_, hb_2⟩
              refine ⟨_, rfl, ?_⟩
              refine hK.out _ _ ⟨g_, g36, (.func (.func 84) #[] #[.pointer (some ⟨g_, 0, none⟩)]), m6_, (by rw [ha.out]; exact putSel_upk 2 hb_ rfl rfl rfl), below_step HBB.out hb_2, fun _ => ⟨hl_, hq_⟩, fun h0_ => absurd ((hoff 6 (by kernel_rfl)).symm.trans h0_) (by decide), fun _ => rfl, fun h0_ => absurd ((hoff 6 (by kernel_rfl)).symm.trans h0_) (by decide)⟩
            refine steps_cons ?_ ?_
            · intro b a w' hI_ hb_ hon hoff
              refine ⟨_, rfl, fun K hK => ?_⟩
              obtain ⟨g32, g36, m2_, m6_, ha, Q_HBB, Q_HQ32, Q_HQ36, Q_X2_, Q_X6_⟩ := hI_
              have e31 : a.tmps[31]? = some (.slice A2 l2.length c2) := by rw [ha]; exact putSel_on (e := (1, 31, .slice A2 l2.length c2)) 1 rfl rfl (hon 1 (by kernel_rfl)) rfl
              have e32 : a.tmps[32]? = some (m2_) := by rw [ha]; exact putSel_on (e := (2, 32, m2_)) 2 rfl rfl (hon 2 (by kernel_rfl)) rfl
              rw [Q_X2_ (hon 2 (by kernel_rfl))] at e32
              replace ha := Aside0.mk ha
              have HBB := Aside0.mk Q_HBB
              have HQ32 := Aside0.mk (Q_HQ32 (hon 2 (by kernel_rfl)))
              refine goes_ Try.func63 (by kernel_rfl) rfl #[.slice A2 l2.length c2, .func (.func 84) #[] #[.pointer (some ⟨g32, 0, none⟩)]] (by rfl) rfl rfl (by first | (simp only [List.map_toArray, List.map_cons, List.map_nil, Act.eval, Array.getD_eq_getD_getElem?, Option.getD_some, e31, e32]; done) | (simp only [List.map_toArray, List.map_cons, List.map_nil, Act.eval, Array.getD_eq_getD_getElem?, Option.getD_some, e31, e32]; rfl)) ?_
              with_reducible refine (notTagB false l2 HT7.out A2 c2 g32 _ (Kd.C_below (Kd.C_below HR2.out HB.out) HBB.out) HZT.out HQ32.out.1 HQ32.out.2).mono ?_
              rintro e w3 ⟨rfl, hb_2⟩
              refine ⟨_, rfl, ?_⟩
              refine hK.out _ _ ⟨g32, g36, m2_, m6_, (by rw [ha.out]; exact putSel_upk 3 hb_ rfl rfl rfl), below_step HBB.out hb_2, fun _ => (fnAt_below HQ32.out hb_2), fun h0_ => absurd ((hoff 6 (by kernel_rfl)).symm.trans h0_) (by decide), Q_X2_, fun h0_ => absurd ((hoff 6 (by kernel_rfl)).symm.trans h0_) (by decide)⟩
            refine steps_cons ?_ ?_
            · intro b a w' hI_ hb_ hon hoff
              refine ⟨_, rfl, fun K hK => ?_⟩
              obtain ⟨g32, g36, m2_, m6_, ha, Q_HBB, Q_HQ32, Q_HQ36, Q_X2_, Q_X6_⟩ := hI_
              have e33 : a.tmps[33]? = some (.bool false) := by rw [ha]; exact putSel_on (e := (3, 33, .bool false)) 3 rfl rfl (hon 3 (by kernel_rfl)) rfl
              replace ha := Aside0.mk ha
              have HBB := Aside0.mk Q_HBB
              have HQ32 := Aside0.mk (Q_HQ32 (hon 2 (by kernel_rfl)))
              refine value_ (w1 := w') (v := .bool false) (by rfl) rfl ?_ ?_
              · go_simp
                (try simp only [i64_w])
                try (first | rfl | assumption)
              refine hK.out _ _ ⟨g32, g36, m2_, m6_, (by rw [ha.out]; exact putSel_upk 4 hb_ rfl rfl rfl), Q_HBB, Q_HQ32, fun h0_ => absurd ((hoff 6 (by kernel_rfl)).symm.trans h0_) (by decide), Q_X2_, fun h0_ => absurd ((hoff 6 (by kernel_rfl)).symm.trans h0_) (by decide)⟩
            refine steps_cons ?_ ?_
            · intro b a w' hI_ hb_ hon hoff
              refine ⟨_, rfl, fun K hK => ?_⟩
              obtain ⟨g32, g36, m2_, m6_, ha, Q_HBB, Q_HQ32, Q_HQ36, Q_X2_, Q_X6_⟩ := hI_
              have e3 : a.tmps[3]? = some (.slice A4 nm.length c4) := by rw [ha]; exact (putSel_off rfl).trans rfl
              have e34 : a.tmps[34]? = some (.bool false) := by rw [ha]; exact putSel_on (e := (4, 34, .bool false)) 4 rfl rfl (hon 4 (by kernel_rfl)) rfl
              replace ha := Aside0.mk ha
              have HBB := Aside0.mk Q_HBB
              have HQ32 := Aside0.mk (Q_HQ32 (hon 2 (by kernel_rfl)))
              refine value_ (w1 := w') (v := .slice A4 nm.length c4) (wanted_on rfl rfl rfl (e34.trans (by first | rfl | (simp [*]; done)))) rfl ?_ ?_
              · go_simp
                (try simp only [i64_w])
                try (first | rfl | assumption)
              refine hK.out _ _ ⟨g32, g36, m2_, m6_, (by rw [ha.out]; exact putSel_upk 5 hb_ rfl rfl rfl), Q_HBB, Q_HQ32, Q_HQ36, Q_X2_, Q_X6_⟩
            refine steps_cons ?_ ?_
            · intro b a w' hI_ hb_ hon hoff
              refine ⟨_, rfl, fun K hK => ?_⟩
              obtain ⟨g32, g36, m2_, m6_, ha, Q_HBB, Q_HQ32, Q_HQ36, Q_X2_, Q_X6_⟩ := hI_
              have e34 : a.tmps[34]? = some (.bool false) := by rw [ha]; exact putSel_on (e := (4, 34, .bool false)) 4 rfl rfl (hon 4 (by kernel_rfl)) rfl
              replace ha := Aside0.mk ha
              have HBB := Aside0.mk Q_HBB
              have HQ32 := Aside0.mk (Q_HQ32 (hon 2 (by kernel_rfl)))
              refine goes_ Try.func64 (by kernel_rfl) rfl #[.func (.func 62) #[] #[]] (wanted_on rfl rfl rfl (e34.trans (by first | rfl | (simp [*]; done)))) rfl rfl (by first | (simp only [List.map_toArray, List.map_cons, List.map_nil, Act.eval, Array.getD_eq_getD_getElem?, Option.getD_some, e34]; done) | (simp only [List.map_toArray, List.map_cons, List.map_nil, Act.eval, Array.getD_eq_getD_getElem?, Option.getD_some, e34]; rfl)) ?_
              with_reducible refine (not_calls 62 _).mono ?_
              rintro e w3 ⟨g_, rfl, hq_, hl_, hb_2⟩
              refine ⟨_, rfl, ?_⟩
              refine hK.out _ _ ⟨g32, g_, m2_, (.func (.func 84) #[] #[.pointer (some ⟨g_, 0, none⟩)]), (by rw [ha.out]; exact putSel_upk 6 hb_ rfl rfl rfl), below_step HBB.out hb_2, fun _ => (fnAt_below HQ32.out hb_2), fun _ => ⟨hl_, hq_⟩, Q_X2_, fun _ => rfl⟩
            refine steps_cons ?_ ?_
            · intro b a w' hI_ hb_ hon hoff
              refine ⟨_, rfl, fun K hK => ?_⟩
              obtain ⟨g32, g36, m2_, m6_, ha, Q_HBB, Q_HQ32, Q_HQ36, Q_X2_, Q_X6_⟩ := hI_
              have e35 : a.tmps[35]? = some (.slice A4 nm.length c4) := by rw [ha]; exact putSel_on (e := (5, 35, .slice A4 nm.length c4)) 5 rfl rfl (hon 5 (by kernel_rfl)) rfl
              have e36 : a.tmps[36]? = some (m6_) := by rw [ha]; exact putSel_on (e := (6, 36, m6_)) 6 rfl rfl (hon 6 (by kernel_rfl)) rfl
              rw [Q_X6_ (hon 6 (by kernel_rfl))] at e36
              have e34 : a.tmps[34]? = some (.bool false) := by rw [ha]; exact putSel_on (e := (4, 34, .bool false)) 4 rfl rfl (hon 4 (by kernel_rfl)) rfl
              replace ha := Aside0.mk ha
              have HBB := Aside0.mk Q_HBB
              have HQ32 := Aside0.mk (Q_HQ32 (hon 2 (by kernel_rfl)))
              have HQ36 := Aside0.mk (Q_HQ36 (hon 6 (by kernel_rfl)))
              refine goes_ Try.func63 (by kernel_rfl) rfl #[.slice A4 nm.length c4, .func (.func 84) #[] #[.pointer (some ⟨g36, 0, none⟩)]] (wanted_on rfl rfl rfl (e34.trans (by first | rfl | (simp [*]; done)))) rfl rfl (by first | (simp only [List.map_toArray, List.map_cons, List.map_nil, Act.eval, Array.getD_eq_getD_getElem?, Option.getD_some, e35, e36, e34]; done) | (simp only [List.map_toArray, List.map_cons, List.map_nil, Act.eval, Array.getD_eq_getD_getElem?, Option.getD_some, e35, e36, e34]; rfl)) ?_
              with_reducible refine (notNameB true nm HF7.out A4 c4 g36 _ (Kd.C_below HR4.out HBB.out) HZF.out HQ36.out.1 HQ36.out.2).mono ?_
              rintro e w3 ⟨rfl, hb_2⟩
              refine ⟨_, rfl, ?_⟩
              refine hK.out _ _ ⟨g32, g36, m2_, m6_, (by rw [ha.out]; exact putSel_upk 7 hb_ rfl rfl rfl), below_step HBB.out hb_2, fun _ => (fnAt_below HQ32.out hb_2), fun _ => (fnAt_below HQ36.out hb_2), Q_X2_, Q_X6_⟩
            refine steps_cons ?_ ?_
            · intro b a w' hI_ hb_ hon hoff
              refine ⟨_, rfl, fun K hK => ?_⟩
              obtain ⟨g32, g36, m2_, m6_, ha, Q_HBB, Q_HQ32, Q_HQ36, Q_X2_, Q_X6_⟩ := hI_
              have e34 : a.tmps[34]? = some (.bool false) := by rw [ha]; exact putSel_on (e := (4, 34, .bool false)) 4 rfl rfl (hon 4 (by kernel_rfl)) rfl
              have e37 : a.tmps[37]? = some (.bool true) := by rw [ha]; exact putSel_on (e := (7, 37, .bool true)) 7 rfl rfl (hon 7 (by kernel_rfl)) rfl
              replace ha := Aside0.mk ha
              have HBB := Aside0.mk Q_HBB
              have HQ32 := Aside0.mk (Q_HQ32 (hon 2 (by kernel_rfl)))
              have HQ36 := Aside0.mk (Q_HQ36 (hon 6 (by kernel_rfl)))
              refine value_ (w1 := w') (v := .bool true) (by rfl) rfl ?_ ?_
              · go_simp
                (try simp only [i64_w])
                try (first | rfl | assumption)
              refine hK.out _ _ ⟨g32, g36, m2_, m6_, (by rw [ha.out]; exact putSel_upk 8 hb_ rfl rfl rfl), Q_HBB, Q_HQ32, Q_HQ36, Q_X2_, Q_X6_⟩
            refine steps_cons ?_ ?_
            · intro b a w' hI_ hb_ hon hoff
              refine ⟨_, rfl, fun K hK => ?_⟩
              obtain ⟨g32, g36, m2_, m6_, ha, Q_HBB, Q_HQ32, Q_HQ36, Q_X2_, Q_X6_⟩ := hI_
              have e38 : a.tmps[38]? = some (.bool true) := by rw [ha]; exact putSel_on (e := (8, 38, .bool true)) 8 rfl rfl (hon 8 (by kernel_rfl)) rfl
              replace ha := Aside0.mk ha
              have HBB := Aside0.mk Q_HBB
              have HQ32 := Aside0.mk (Q_HQ32 (hon 2 (by kernel_rfl)))
              have HQ36 := Aside0.mk (Q_HQ36 (hon 6 (by kernel_rfl)))
              refine value_ (w1 := w') (v := .bool true) (by rfl) rfl ?_ ?_
              · go_simp
                (try simp only [i64_w])
                try (first | rfl | assumption)
              refine hK.out _ _ ⟨g32, g36, m2_, m6_, (by rw [ha.out]; exact putSel_upk 9 hb_ rfl rfl rfl), Q_HBB, Q_HQ32, Q_HQ36, Q_X2_, Q_X6_⟩
            exact steps_nil
          rintro b a wz hall ⟨g32, g36, m2_, m6_, ha, Q_HBB, Q_HQ32, Q_HQ36, Q_X2_, Q_X6_⟩
          clear HBB
          have hb0_ := hall 0 (by kernel_rfl)
          have hb1_ := hall 1 (by kernel_rfl)
          have hb2_ := hall 2 (by kernel_rfl)
          have hb3_ := hall 3 (by kernel_rfl)
          have hb4_ := hall 4 (by kernel_rfl)
          have hb5_ := hall 5 (by kernel_rfl)
          have hb6_ := hall 6 (by kernel_rfl)
          have hb7_ := hall 7 (by kernel_rfl)
          have hb8_ := hall 8 (by kernel_rfl)
          have hb9_ := hall 9 (by kernel_rfl)
          subst ha
          obtain rfl := Q_X2_ hb2_
          obtain rfl := Q_X6_ hb6_
          simp only [putSel, hb0_, hb1_, hb2_, hb3_, hb4_, hb5_, hb6_, hb7_, hb8_, hb9_, if_true, Act.put, List.setIfInBounds_toArray, List.set_cons_zero, List.set_cons_succ]
          have HBB := Aside0.mk Q_HBB
          clear Q_HBB
          have HQ32 := Aside0.mk (Q_HQ32 hb2_)
          clear Q_HQ32
          have HQ36 := Aside0.mk (Q_HQ36 hb6_)
          clear Q_HQ36
          clear hall hb0_ hb1_ hb2_ hb3_ hb4_ hb5_ hb6_ hb7_ hb8_ hb9_
          go_wp2
          go_ret
          exact ⟨ret_i64 HG.out.symm, below_step HB.out HBB.out⟩
        | false =>
          have HF7 := Aside0.mk h8
          have H56 := Aside0.mk (H34.out.trans (if_neg (by rw [h7, h8]; simp)))
          clear H34 h7 h8
          refine start_ (n := 10) (S := fun w' => True) (ds := []) #[false, false, false, false, false, false, false, false, false, false] (by kernel_rfl) rfl rfl trivial (fun hHeld => ?_); refine with_tabW D45.tab7 D45.bits7 (fun HT_ HW_ => ?_)
          refine inv_at [0, 1, 2, 3, 4, 5, 6, 7, 8, 9] (fun a0_ b a w' => ∃ (g32 : Nat) (g36 : Nat) (m2_ : Value) (m6_ : Value), a = putSel a0_ b [(0, 30, .pointer (some ⟨g, 2, none⟩)), (1, 31, .slice A2 l2.length c2), (2, 32, m2_), (3, 33, .bool false), (4, 34, .bool false), (5, 35, .slice A4 nm.length c4), (6, 36, m6_), (7, 37, .bool false), (8, 38, .bool false), (9, 29, .bool false)] ∧ (Below w5.heap.size w5 w') ∧ (b 2 = true → (g32 < w'.heap.size ∧ w'.cell? ⟨g32, 0, none⟩ = some (.func (.func 65) #[] #[]))) ∧ (b 6 = true → (g36 < w'.heap.size ∧ w'.cell? ⟨g36, 0, none⟩ = some (.func (.func 62) #[] #[]))) ∧ (b 2 = true → (m2_ : Value) = .func (.func 84) #[] #[.pointer (some ⟨g32, 0, none⟩)]) ∧ (b 6 = true → (m6_ : Value) = .func (.func 84) #[] #[.pointer (some ⟨g36, 0, none⟩)])) HT_.out HW_.out (by kernel_rfl) (by kernel_rfl) ?_ ?_ ?_
          · exact ⟨0, 0, .bool false, .bool false, by simp only [putSel, Bool.false_eq_true, if_false], HBB.out, fun h_ => absurd h_ (by decide), fun h_ => absurd h_ (by decide), fun h_ => absurd h_ (by decide), fun h_ => absurd h_ (by decide)⟩
          · clear HT_ HW_ hHeld
            clear HBB
            refine steps_cons ?_ ?_
            · intro b a w' hI_ hb_ hon hoff
              refine ⟨_, rfl, fun K hK => ?_⟩
              obtain ⟨g32, g36, m2_, m6_, ha, Q_HBB, Q_HQ32, Q_HQ36, Q_X2_, Q_X6_⟩ := hI_
              have e1 : a.tmps[1]? = some (.pointer (some ⟨g, 0, none⟩)) := by rw [ha]; exact (putSel_off rfl).trans rfl
              replace ha := Aside0.mk ha
              have HBB := Aside0.mk Q_HBB
              refine value_ (w1 := w') (v := .pointer (some ⟨g, 2, none⟩)) (by rfl) rfl ?_ ?_
              · go_simp
                (try simp only [i64_w])
                try (first | rfl | assumption)
              refine hK.out _ _ ⟨g32, g36, m2_, m6_, (by rw [ha.out]; exact putSel_upk 0 hb_ rfl rfl rfl), Q_HBB, Q_HQ32, fun h0_ => absurd ((hoff 6 (by kernel_rfl)).symm.trans h0_) (by decide), Q_X2_, fun h0_ => absurd ((hoff 6 (by kernel_rfl)).symm.trans h0_) (by decide)⟩
            refine steps_cons ?_ ?_
            · intro b a w' hI_ hb_ hon hoff
              refine ⟨_, rfl, fun K hK => ?_⟩
              obtain ⟨g32, g36, m2_, m6_, ha, Q_HBB, Q_HQ32, Q_HQ36, Q_X2_, Q_X6_⟩ := hI_
              have e30 : a.tmps[30]? = some (.pointer (some ⟨g, 2, none⟩)) := by rw [ha]; exact putSel_on (e := (0, 30, .pointer (some ⟨g, 2, none⟩))) 0 rfl rfl (hon 0 (by kernel_rfl)) rfl
              replace ha := Aside0.mk ha
              have HBB := Aside0.mk Q_HBB
              have hx2 := (HBB.out.cell (blk_lt HX.out)).trans (blk_cell HX.out 2)
              refine value_ (w1 := w') (v := .slice A2 l2.length c2) (by rfl) rfl ?_ ?_
              · go_simp
                (try simp only [i64_w])
                try (first | rfl | assumption)
              refine hK.out _ _ ⟨g32, g36, m2_, m6_, (by rw [ha.out]; exact putSel_upk 1 hb_ rfl rfl rfl), Q_HBB, Q_HQ32, fun h0_ => absurd ((hoff 6 (by kernel_rfl)).symm.trans h0_) (by decide), Q_X2_, fun h0_ => absurd ((hoff 6 (by kernel_rfl)).symm.trans h0_) (by decide)⟩
            refine steps_cons ?_ ?_
            · intro b a w' hI_ hb_ hon hoff
              refine ⟨_, rfl, fun K hK => ?_⟩
              obtain ⟨g32, g36, m2_, m6_, ha, Q_HBB, Q_HQ32, Q_HQ36, Q_X2_, Q_X6_⟩ := hI_
              replace ha := Aside0.mk ha
              have HBB := Aside0.mk Q_HBB
              refine goes_ Try.func64 (by kernel_rfl) rfl #[.func (.func 65) #[] #[]] (by rfl) rfl rfl (by first | (simp only [List.map_toArray, List.map_cons, List.map_nil, Act.eval, Array.getD_eq_getD_getElem?, Option.getD_some]; done) | (simp only [List.map_toArray, List.map_cons, List.map_nil, Act.eval, Array.getD_eq_getD_getElem?, Option.getD_some]; rfl)) ?_
              with_reducible refine (not_calls 65 _).mono ?_
              rintro e w3 ⟨g_, rfl, hq_, hl_, hb_2⟩
              refine ⟨_, rfl, ?_⟩
              refine hK.out _ _ ⟨g_, g36, (.func (.func 84) #[] #[.pointer (some ⟨g_, 0, none⟩)]), m6_, (by rw [ha.out]; exact putSel_upk 2 hb_ rfl rfl rfl), below_step HBB.out hb_2, fun _ => ⟨hl_, hq_⟩, fun h0_ => absurd ((hoff 6 (by kernel_rfl)).symm.trans h0_) (by decide), fun _ => rfl, fun h0_ => absurd ((hoff 6 (by kernel_rfl)).symm.trans h0_) (by decide)⟩
            refine steps_cons ?_ ?_
            · intro b a w' hI_ hb_ hon hoff
              refine ⟨_, rfl, fun K hK => ?_⟩
              obtain ⟨g32, g36, m2_, m6_, ha, Q_HBB, Q_HQ32, Q_HQ36, Q_X2_, Q_X6_⟩ := hI_
              have e31 : a.tmps[31]? = some (.slice A2 l2.length c2) := by rw [ha]; exact putSel_on (e := (1, 31, .slice A2 l2.length c2)) 1 rfl rfl (hon 1 (by kernel_rfl)) rfl
              have e32 : a.tmps[32]? = some (m2_) := by rw [ha]; exact putSel_on (e := (2, 32, m2_)) 2 rfl rfl (hon 2 (by kernel_rfl)) rfl
              rw [Q_X2_ (hon 2 (by kernel_rfl))] at e32
              replace ha := Aside0.mk ha
              have HBB := Aside0.mk Q_HBB
              have HQ32 := Aside0.mk (Q_HQ32 (hon 2 (by kernel_rfl)))
              refine goes_ Try.func63 (by kernel_rfl) rfl #[.slice A2 l2.length c2, .func (.func 84) #[] #[.pointer (some ⟨g32, 0, none⟩)]] (by rfl) rfl rfl (by first | (simp only [List.map_toArray, List.map_cons, List.map_nil, Act.eval, Array.getD_eq_getD_getElem?, Option.getD_some, e31, e32]; done) | (simp only [List.map_toArray, List.map_cons, List.map_nil, Act.eval, Array.getD_eq_getD_getElem?, Option.getD_some, e31, e32]; rfl)) ?_
              with_reducible refine (notTagB false l2 HT7.out A2 c2 g32 _ (Kd.C_below (Kd.C_below HR2.out HB.out) HBB.out) HZT.out HQ32.out.1 HQ32.out.2).mono ?_
              rintro e w3 ⟨rfl, hb_2⟩
              refine ⟨_, rfl, ?_⟩
              refine hK.out _ _ ⟨g32, g36, m2_, m6_, (by rw [ha.out]; exact putSel_upk 3 hb_ rfl rfl rfl), below_step HBB.out hb_2, fun _ => (fnAt_below HQ32.out hb_2), fun h0_ => absurd ((hoff 6 (by kernel_rfl)).symm.trans h0_) (by decide), Q_X2_, fun h0_ => absurd ((hoff 6 (by kernel_rfl)).symm.trans h0_) (by decide)⟩
            refine steps_cons ?_ ?_
            · intro b a w' hI_ hb_ hon hoff
              refine ⟨_, rfl, fun K hK => ?_⟩
              obtain ⟨g32, g36, m2_, m6_, ha, Q_HBB, Q_HQ32, Q_HQ36, Q_X2_, Q_X6_⟩ := hI_
              have e33 : a.tmps[33]? = some (.bool false) := by rw [ha]; exact putSel_on (e := (3, 33, .bool false)) 3 rfl rfl (hon 3 (by kernel_rfl)) rfl
              replace ha := Aside0.mk ha
              have HBB := Aside0.mk Q_HBB
              have HQ32 := Aside0.mk (Q_HQ32 (hon 2 (by kernel_rfl)))
              refine value_ (w1 := w') (v := .bool false) (by rfl) rfl ?_ ?_
              · go_simp
                (try simp only [i64_w])
                try (first | rfl | assumption)
              refine hK.out _ _ ⟨g32, g36, m2_, m6_, (by rw [ha.out]; exact putSel_upk 4 hb_ rfl rfl rfl), Q_HBB, Q_HQ32, fun h0_ => absurd ((hoff 6 (by kernel_rfl)).symm.trans h0_) (by decide), Q_X2_, fun h0_ => absurd ((hoff 6 (by kernel_rfl)).symm.trans h0_) (by decide)⟩
            refine steps_cons ?_ ?_
            · intro b a w' hI_ hb_ hon hoff
              refine ⟨_, rfl, fun K hK => ?_⟩
              obtain ⟨g32, g36, m2_, m6_, ha, Q_HBB, Q_HQ32, Q_HQ36, Q_X2_, Q_X6_⟩ := hI_
              have e3 : a.tmps[3]? = some (.slice A4 nm.length c4) := by rw [ha]; exact (putSel_off rfl).trans rfl
              have e34 : a.tmps[34]? = some (.bool false) := by rw [ha]; exact putSel_on (e := (4, 34, .bool false)) 4 rfl rfl (hon 4 (by kernel_rfl)) rfl
              replace ha := Aside0.mk ha
              have HBB := Aside0.mk Q_HBB
              have HQ32 := Aside0.mk (Q_HQ32 (hon 2 (by kernel_rfl)))
              refine value_ (w1 := w') (v := .slice A4 nm.length c4) (wanted_on rfl rfl rfl (e34.trans (by first | rfl | (simp [*]; done)))) rfl ?_ ?_
              · go_simp
                (try simp only [i64_w])
                try (first | rfl | assumption)
              refine hK.out _ _ ⟨g32, g36, m2_, m6_, (by rw [ha.out]; exact putSel_upk 5 hb_ rfl rfl rfl), Q_HBB, Q_HQ32, Q_HQ36, Q_X2_, Q_X6_⟩
            refine steps_cons ?_ ?_
            · intro b a w' hI_ hb_ hon hoff
              refine ⟨_, rfl, fun K hK => ?_⟩
              obtain ⟨g32, g36, m2_, m6_, ha, Q_HBB, Q_HQ32, Q_HQ36, Q_X2_, Q_X6_⟩ := hI_
              have e34 : a.tmps[34]? = some (.bool false) := by rw [ha]; exact putSel_on (e := (4, 34, .bool false)) 4 rfl rfl (hon 4 (by kernel_rfl)) rfl
              replace ha := Aside0.mk ha
              have HBB := Aside0.mk Q_HBB
              have HQ32 := Aside0.mk (Q_HQ32 (hon 2 (by kernel_rfl)))
              refine goes_ Try.func64 (by kernel_rfl) rfl #[.func (.func 62) #[] #[]] (wanted_on rfl rfl rfl (e34.trans (by first | rfl | (simp [*]; done)))) rfl rfl (by first | (simp only [List.map_toArray, List.map_cons, List.map_nil, Act.eval, Array.getD_eq_getD_getElem?, Option.getD_some, e34]; done) | (simp only [List.map_toArray, List.map_cons, List.map_nil, Act.eval, Array.getD_eq_getD_getElem?, Option.getD_some, e34]; rfl)) ?_
              with_reducible refine (not_calls 62 _).mono ?_
              rintro e w3 ⟨g_, rfl, hq_, hl_, hb_2⟩
              refine ⟨_, rfl, ?_⟩
              refine hK.out _ _ ⟨g32, g_, m2_, (.func (.func 84) #[] #[.pointer (some ⟨g_, 0, none⟩)]), (by rw [ha.out]; exact putSel_upk 6 hb_ rfl rfl rfl), below_step HBB.out hb_2, fun _ => (fnAt_below HQ32.out hb_2), fun _ => ⟨hl_, hq_⟩, Q_X2_, fun _ => rfl⟩
            refine steps_cons ?_ ?_
            · intro b a w' hI_ hb_ hon hoff
              refine ⟨_, rfl, fun K hK => ?_⟩
              obtain ⟨g32, g36, m2_, m6_, ha, Q_HBB, Q_HQ32, Q_HQ36, Q_X2_, Q_X6_⟩ := hI_
              have e35 : a.tmps[35]? = some (.slice A4 nm.length c4) := by rw [ha]; exact putSel_on (e := (5, 35, .slice A4 nm.length c4)) 5 rfl rfl (hon 5 (by kernel_rfl)) rfl
              have e36 : a.tmps[36]? = some (m6_) := by rw [ha]; exact putSel_on (e := (6, 36, m6_)) 6 rfl rfl (hon 6 (by kernel_rfl)) rfl
              rw [Q_X6_ (hon 6 (by kernel_rfl))] at e36
              have e34 : a.tmps[34]? = some (.bool false) := by rw [ha]; exact putSel_on (e := (4, 34, .bool false)) 4 rfl rfl (hon 4 (by kernel_rfl)) rfl
              replace ha := Aside0.mk ha
              have HBB := Aside0.mk Q_HBB
              have HQ32 := Aside0.mk (Q_HQ32 (hon 2 (by kernel_rfl)))
              have HQ36 := Aside0.mk (Q_HQ36 (hon 6 (by kernel_rfl)))
              refine goes_ Try.func63 (by kernel_rfl) rfl #[.slice A4 nm.length c4, .func (.func 84) #[] #[.pointer (some ⟨g36, 0, none⟩)]] (wanted_on rfl rfl rfl (e34.trans (by first | rfl | (simp [*]; done)))) rfl rfl (by first | (simp only [List.map_toArray, List.map_cons, List.map_nil, Act.eval, Array.getD_eq_getD_getElem?, Option.getD_some, e35, e36, e34]; done) | (simp only [List.map_toArray, List.map_cons, List.map_nil, Act.eval, Array.getD_eq_getD_getElem?, Option.getD_some, e35, e36, e34]; rfl)) ?_
              with_reducible refine (notNameB false nm HF7.out A4 c4 g36 _ (Kd.C_below HR4.out HBB.out) HZF.out HQ36.out.1 HQ36.out.2).mono ?_
              rintro e w3 ⟨rfl, hb_2⟩
              refine ⟨_, rfl, ?_⟩
              refine hK.out _ _ ⟨g32, g36, m2_, m6_, (by rw [ha.out]; exact putSel_upk 7 hb_ rfl rfl rfl), below_step HBB.out hb_2, fun _ => (fnAt_below HQ32.out hb_2), fun _ => (fnAt_below HQ36.out hb_2), Q_X2_, Q_X6_⟩
            refine steps_cons ?_ ?_
            · intro b a w' hI_ hb_ hon hoff
              refine ⟨_, rfl, fun K hK => ?_⟩
              obtain ⟨g32, g36, m2_, m6_, ha, Q_HBB, Q_HQ32, Q_HQ36, Q_X2_, Q_X6_⟩ := hI_
              have e34 : a.tmps[34]? = some (.bool false) := by rw [ha]; exact putSel_on (e := (4, 34, .bool false)) 4 rfl rfl (hon 4 (by kernel_rfl)) rfl
              have e37 : a.tmps[37]? = some (.bool false) := by rw [ha]; exact putSel_on (e := (7, 37, .bool false)) 7 rfl rfl (hon 7 (by kernel_rfl)) rfl
              replace ha := Aside0.mk ha
              have HBB := Aside0.mk Q_HBB
              have HQ32 := Aside0.mk (Q_HQ32 (hon 2 (by kernel_rfl)))
              have HQ36 := Aside0.mk (Q_HQ36 (hon 6 (by kernel_rfl)))
              refine value_ (w1 := w') (v := .bool false) (by rfl) rfl ?_ ?_
              · go_simp
                (try simp only [i64_w])
                try (first | rfl | assumption)
              refine hK.out _ _ ⟨g32, g36, m2_, m6_, (by rw [ha.out]; exact putSel_upk 8 hb_ rfl rfl rfl), Q_HBB, Q_HQ32, Q_HQ36, Q_X2_, Q_X6_⟩
            refine steps_cons ?_ ?_
            · intro b a w' hI_ hb_ hon hoff
              refine ⟨_, rfl, fun K hK => ?_⟩
              obtain ⟨g32, g36, m2_, m6_, ha, Q_HBB, Q_HQ32, Q_HQ36, Q_X2_, Q_X6_⟩ := hI_
              have e38 : a.tmps[38]? = some (.bool false) := by rw [ha]; exact putSel_on (e := (8, 38, .bool false)) 8 rfl rfl (hon 8 (by kernel_rfl)) rfl
              replace ha := Aside0.mk ha
              have HBB := Aside0.mk Q_HBB
              have HQ32 := Aside0.mk (Q_HQ32 (hon 2 (by kernel_rfl)))
              have HQ36 := Aside0.mk (Q_HQ36 (hon 6 (by kernel_rfl)))
              refine value_ (w1 := w') (v := .bool false) (by rfl) rfl ?_ ?_
              · go_simp
                (try simp only [i64_w])
                try (first | rfl | assumption)
              refine hK.out _ _ ⟨g32, g36, m2_, m6_, (by rw [ha.out]; exact putSel_upk 9 hb_ rfl rfl rfl), Q_HBB, Q_HQ32, Q_HQ36, Q_X2_, Q_X6_⟩
            exact steps_nil
          rintro b a wz hall ⟨g32, g36, m2_, m6_, ha, Q_HBB, Q_HQ32, Q_HQ36, Q_X2_, Q_X6_⟩
          clear HBB
          have hb0_ := hall 0 (by kernel_rfl)
          have hb1_ := hall 1 (by kernel_rfl)
          have hb2_ := hall 2 (by kernel_rfl)
          have hb3_ := hall 3 (by kernel_rfl)
          have hb4_ := hall 4 (by kernel_rfl)
          have hb5_ := hall 5 (by kernel_rfl)
          have hb6_ := hall 6 (by kernel_rfl)
          have hb7_ := hall 7 (by kernel_rfl)
          have hb8_ := hall 8 (by kernel_rfl)
          have hb9_ := hall 9 (by kernel_rfl)
          subst ha
          obtain rfl := Q_X2_ hb2_
          obtain rfl := Q_X6_ hb6_
          simp only [putSel, hb0_, hb1_, hb2_, hb3_, hb4_, hb5_, hb6_, hb7_, hb8_, hb9_, if_true, Act.put, List.setIfInBounds_toArray, List.set_cons_zero, List.set_cons_succ]
          have HBB := Aside0.mk Q_HBB
          clear Q_HBB
          have HQ32 := Aside0.mk (Q_HQ32 hb2_)
          clear Q_HQ32
          have HQ36 := Aside0.mk (Q_HQ36 hb6_)
          clear Q_HQ36
          clear hall hb0_ hb1_ hb2_ hb3_ hb4_ hb5_ hb6_ hb7_ hb8_ hb9_
          have hb := HBB.out; have n1_ := Aside0.mk (below_step HB.out hb); have n2_ := Aside0.mk (blk_below HX.out hb); clear HB HX; have HB := n1_; have HX := n2_; clear n1_ n2_; have n1_ := Aside0.mk (Kd.C_below HR4.out hb); clear HR4; have HR4 := n1_; clear n1_ hb; clear hx0 hx1 hx2 hx3; have hx0 := blk_cell HX.out 0; have hx1 := blk_cell HX.out 1; have hx2 := blk_cell HX.out 2; have hx3 := blk_cell HX.out 3; clear HBB
          clear HT7 HF7
          go_wp2_with fail
          refine (event_rise.calls (l2.length + 1) A2 c2 l2 (riseB l2) wz (Kd.C_below HR2.out HB.out) HC2.out (rise_val l2 hm2)).mono ?_
          rintro e w6 ⟨rfl, hd⟩
          have hb := hd.below
          clear hd
          have n1_ := Aside0.mk (below_step HB.out hb); have n2_ := Aside0.mk (blk_below HX.out hb); clear HB HX; have HB := n1_; have HX := n2_; clear n1_ n2_; have n1_ := Aside0.mk (Kd.C_below HR4.out hb); clear HR4; have HR4 := n1_; clear n1_ hb; clear hx0 hx1 hx2 hx3; have hx0 := blk_cell HX.out 0; have hx1 := blk_cell HX.out 1; have hx2 := blk_cell HX.out 2; have hx3 := blk_cell HX.out 3
          cases hq1 : riseB l2 with
          | false =>
            have HG := Aside0.mk (H56.out.trans (if_pos (.inl hq1)))
            clear hq1
            go_wp2
            go_ret
            exact ⟨ret_i64 HG.out.symm, HB.out⟩
          | true =>
          go_wp2_with fail
          refine (event_rise.calls (nm.length + 1) A4 c4 nm (riseB nm) w6 HR4.out HC4.out (rise_val nm (Kd.C_max HR4.out))).mono ?_
          rintro e w7 ⟨rfl, hd⟩
          have hb := hd.below
          clear hd
          have n1_ := Aside0.mk (below_step HB.out hb); have n2_ := Aside0.mk (blk_below HX.out hb); clear HB HX; have HB := n1_; have HX := n2_; clear n1_ n2_; have n1_ := Aside0.mk (Kd.C_below HR4.out hb); clear HR4; have HR4 := n1_; clear n1_ hb; clear hx0 hx1 hx2 hx3; have hx0 := blk_cell HX.out 0; have hx1 := blk_cell HX.out 1; have hx2 := blk_cell HX.out 2; have hx3 := blk_cell HX.out 3
          cases hq2 : riseB nm with
          | false =>
            have HG := Aside0.mk (H56.out.trans (if_pos (.inr (.inl hq2))))
            clear hq1 hq2
            go_wp2
            go_ret
            exact ⟨ret_i64 HG.out.symm, HB.out⟩
          | true =>
          go_wp2_with fail
          refine (overC l3 A3 c3 w7 (Kd.C_below HR3.out HB.out)).mono ?_
          rintro e w8 ⟨rfl, hb⟩
          have n1_ := Aside0.mk (below_step HB.out hb); have n2_ := Aside0.mk (blk_below HX.out hb); clear HB HX; have HB := n1_; have HX := n2_; clear n1_ n2_; have n1_ := Aside0.mk (Kd.C_below HR4.out hb); clear HR4; have HR4 := n1_; clear n1_ hb; clear hx0 hx1 hx2 hx3; have hx0 := blk_cell HX.out 0; have hx1 := blk_cell HX.out 1; have hx2 := blk_cell HX.out 2; have hx3 := blk_cell HX.out 3
          cases hq3 : l3.any overB with
          | true =>
            have HG := Aside0.mk (H56.out.trans (if_pos (.inr (.inr hq3))))
            clear hq1 hq2 hq3
            go_wp2
            go_ret
            exact ⟨ret_i64 HG.out.symm, HB.out⟩
          | false =>
            have HG := Aside0.mk (H56.out.trans (if_neg (by rw [hq1, hq2, hq3]; simp)))
            clear hq1 hq2 hq3
            go_wp2
            go_ret
            exact ⟨ret_i64 HG.out.symm, HB.out⟩
end Go.Proofs.Ytocpcnmnhckcpaa.Nam
namespace Go.Proofs.Ytocpcnmnhckcpaa.Prt
open Go.RowKit Go.Proofs.YtocpcnmnhckcpaaW.PrintWords Go.Proofs.YtocpcnmnhckcpaaW.PrintLast Go.Proofs.YtocpcnmnhckcpaaW.PrintMore Go.Proofs.Ytocpcnmnhckcpaa.Num Go.Proofs.Ytocpcnmnhckcpaa.Nam
set_option linter.unusedVariables false
set_option linter.unusedSimpArgs false

/-- No text of these is longer than any can be. -/
def fitE (s t : ByteArray) (tags : List ByteArray) (fl : List S90) : Bool := decide (s.size ≤ 9223372036854775807) && decide (t.size ≤ 9223372036854775807) && (tags.all fun x => decide (x.size ≤ 9223372036854775807)) && (fl.all fun x => decide (x.f0.size ≤ 9223372036854775807)) && decide (fl.length < 8796093022208)
theorem fitE_iff {s t : ByteArray} {tags : List ByteArray} {fl : List S90} : fitE s t tags fl = true ↔ s.size ≤ 9223372036854775807 ∧ t.size ≤ 9223372036854775807 ∧ (∀ x ∈ tags, x.size ≤ 9223372036854775807) ∧ (∀ x ∈ fl, x.f0.size ≤ 9223372036854775807) ∧ fl.length < 8796093022208 := by
  unfold fitE
  simp only [Bool.and_eq_true, decide_eq_true_eq, List.all_eq_true, and_assoc]
def event_May.f (a0_0 : ByteArray) (a0_1 : ByteArray) (l0_2 : List ByteArray) (l0_3 : List (S90)) : Option (Int) := if fitE a0_0 a0_1 l0_2 l0_3 = true then some (mayE a0_0 a0_1 l0_2 l0_3) else none
theorem event_May.calls (a0_0 : ByteArray) (a0_1 : ByteArray) (A0_2 : Option Addr) (c0_2 : Nat) (l0_2 : List ByteArray) (A0_3 : Option Addr) (c0_3 : Nat) (l0_3 : List (S90)) (r : Int) (w : World) (hr0_2 : Kd.C Kd.string w A0_2 l0_2.length l0_2) (hc0_2 : l0_2.length ≤ c0_2) (hr0_3 : Kd.C k90 w A0_3 l0_3.length l0_3) (hc0_3 : l0_3.length ≤ c0_3) (h : event_May.f a0_0 a0_1 l0_2 l0_3 = some r) :
    Calls Try.prog 45 #[.agg #[.string a0_0, .string a0_1, .slice A0_2 l0_2.length c0_2, .slice A0_3 l0_3.length c0_3]] w fun e w' => e = .returned (.int .i64 r) ∧ Below w.heap.size w w' := by
  unfold event_May.f at h
  by_cases hf : fitE a0_0 a0_1 l0_2 l0_3 = true
  · rw [if_pos hf] at h
    obtain rfl := Option.some.inj h
    obtain ⟨h1, h2, h3, h4, h5⟩ := fitE_iff.1 hf
    exact eventMay_calls a0_0 a0_1 A0_2 A0_3 c0_2 c0_3 l0_2 l0_3 w hr0_2 hc0_2 hr0_3 hc0_3 h1 h2 h3 h4 h5
  · rw [if_neg hf] at h; cases h
end Go.Proofs.Ytocpcnmnhckcpaa.Prt
namespace Go.Proofs.Ytocpcnmnhckcpaa.Num
open Go.RowKit Go.Proofs.YtocpcnmnhckcpaaW.PrintWords Go.Proofs.YtocpcnmnhckcpaaW.PrintLast Go.Proofs.YtocpcnmnhckcpaaW.PrintMore Go.Proofs.Ytocpcnmnhckcpaa.Prt Go.Proofs.Ytocpcnmnhckcpaa.Nam
set_option linter.unusedVariables false
set_option linter.unusedSimpArgs false

/-- So many fields taken. -/
def takeFs : Nat → List Int → Bool → List S90 × List Int × Bool
  | 0, l, b => ([], l, b)
  | n + 1, l, b => ((takeFs n l b).1 ++ [⟨textOf (takeFs n l b).2.1, numOf (aftT (takeFs n l b).2.1)⟩], aft (aftT (takeFs n l b).2.1), badOf (aftT (takeFs n l b).2.1) (badT (takeFs n l b).2.1 (takeFs n l b).2.2))
/-- An event taken: the event, the error, what is left, whether the reader is bad. -/
def takeE (l : List Int) (b : Bool) : S31 × Int × List Int × Bool :=
  let n := numOf (aftT (aftT l)); let l3 := aft (aftT (aftT l)); let b3 := badOf (aftT (aftT l)) (badT (aftT l) (badT l b))
  if n < 0 ∨ 6 < n then (z31, 2, l3, b3) else
  let q := takeTs n.toNat l3 b3; let m := numOf q.2.1; let l5 := aft q.2.1; let b5 := badOf q.2.1 q.2.2
  if m < 0 ∨ 4 < m then (z31, 2, l5, b5) else
  let r := takeFs m.toNat l5 b5
  if r.2.2 = true ∨ mayE (textOf l) (textOf (aftT l)) q.1 r.1 ≠ 0 then (z31, 2, r.2) else (⟨textOf l, textOf (aftT l), q.1, r.1⟩, 0, r.2)
theorem takeFs_len (l : List Int) (b : Bool) : ∀ n, (takeFs n l b).1.length = n
  | 0 => rfl
  | n + 1 => by simp only [takeFs, List.length_append, List.length_singleton, takeFs_len l b n]
theorem takeFs_left (l : List Int) (b : Bool) (hb : isBytes l) : ∀ n, isBytes (takeFs n l b).2.1 ∧ (takeFs n l b).2.1.length ≤ l.length ∧ ∀ x ∈ (takeFs n l b).1, x.f0.size ≤ l.length
  | 0 => ⟨hb, Nat.le_refl _, fun x hx => by simp [takeFs] at hx⟩
  | n + 1 => by
    obtain ⟨h1, h2, h3⟩ := takeFs_left l b hb n
    have g1 := aftT_bytes h1
    refine ⟨aft_bytes g1, Nat.le_trans (aft_len _ g1) (Nat.le_trans (aftT_len _ h1) h2), fun x hx => ?_⟩
    simp only [takeFs] at hx
    rcases List.mem_append.1 hx with hx | hx
    · exact h3 x hx
    · rw [List.mem_singleton.1 hx]; exact Nat.le_trans (textOf_size _ h1) h2
theorem Out.of_Tk {w w0 w' : World} {P : Nat → Prop} {g E Rb : Nat} {l : List Int} {bad : Bool} {s t : ByteArray} {v2 v3 : Value} {tags : List ByteArray} {fl : List S90} (h : Tk w0 w' P g E Rb l bad s t v2 tags v3 fl) (hB : Below w.heap.size w w0) (hg : g < w.heap.size) : Out w w' P g l bad :=
  ⟨h.rd, (hB.mono (Nat.le_of_lt hg)).trans h.below, (KeepBut.of_below hB g none).trans h.keep (.inl rfl)⟩
/-- What an event is that couldn't be taken. -/
theorem takeE_n {l : List Int} {b : Bool} (h : numOf (aftT (aftT l)) < 0 ∨ 6 < numOf (aftT (aftT l))) : takeE l b = (z31, 2, aft (aftT (aftT l)), badOf (aftT (aftT l)) (badT (aftT l) (badT l b))) := by
  unfold takeE; simp only; rw [if_pos h]
theorem takeE_m {l : List Int} {b : Bool} {q : List ByteArray × List Int × Bool} (h : ¬ (numOf (aftT (aftT l)) < 0 ∨ 6 < numOf (aftT (aftT l)))) (hq : takeTs (numOf (aftT (aftT l))).toNat (aft (aftT (aftT l))) (badOf (aftT (aftT l)) (badT (aftT l) (badT l b))) = q)
    (h2 : numOf q.2.1 < 0 ∨ 4 < numOf q.2.1) : takeE l b = (z31, 2, aft q.2.1, badOf q.2.1 q.2.2) := by
  unfold takeE; simp only; rw [if_neg h, hq, if_pos h2]
theorem takeE_r {l : List Int} {b : Bool} {q : List ByteArray × List Int × Bool} {r : List S90 × List Int × Bool} (h : ¬ (numOf (aftT (aftT l)) < 0 ∨ 6 < numOf (aftT (aftT l)))) (hq : takeTs (numOf (aftT (aftT l))).toNat (aft (aftT (aftT l))) (badOf (aftT (aftT l)) (badT (aftT l) (badT l b))) = q)
    (h2 : ¬ (numOf q.2.1 < 0 ∨ 4 < numOf q.2.1)) (hr : takeFs (numOf q.2.1).toNat (aft q.2.1) (badOf q.2.1 q.2.2) = r) :
    takeE l b = if r.2.2 = true ∨ mayE (textOf l) (textOf (aftT l)) q.1 r.1 ≠ 0 then (z31, 2, r.2) else (⟨textOf l, textOf (aftT l), q.1, r.1⟩, 0, r.2) := by
  unfold takeE; simp only; rw [if_neg h, hq, if_neg h2, hr]
theorem R_set4 {α : Type} {d : Kd α} {e N t E : Nat} {w : World} {v : Value} {l : List α} {cells : Array Value} (h : d.R e w N (fun _ => True) v l) (hb : w.heap[E]? = some (.cells cells t (0, 0))) (ht : ∀ q, q ∈ e :: d.E → q ≠ t) (u0 u1 u2 u3 : Value) : d.R e ((((w.setCell ⟨E, 0, none⟩ u0).setCell ⟨E, 1, none⟩ u1).setCell ⟨E, 2, none⟩ u2).setCell ⟨E, 3, none⟩ u3) N (fun _ => True) v l :=
  R_set (R_set (R_set (R_set h hb ht 0 u0) (blk_set hb 0 u0) ht 1 u1) (blk_set (blk_set hb 0 u0) 1 u1) ht 2 u2) (blk_set (blk_set (blk_set hb 0 u0) 1 u1) 2 u2) ht 3 u3
theorem take_start (w w0 : World) (P : Nat → Prop) (g : Nat) (l : List Int) (bad : Bool) (h0 : w0 = (w.alloc (.cells #[.pointer (some ⟨g, 0, none⟩)] 70)).alloc (.cells #[.string ⟨#[]⟩, .string ⟨#[]⟩, .slice none 0 0, .slice none 0 0] 31)) (hI : Rd 98 P w g l bad) (hb : isBytes l) (hP : ∀ k, P k → k < w.heap.size) :
    w0.heap.size = w.heap.size + 1 + 1 ∧ w0.heap[w.heap.size + 1]? = some (.cells #[.string ⟨#[]⟩, .string ⟨#[]⟩, .slice none 0 0, .slice none 0 0] 31) ∧ Below w.heap.size w w0 ∧ Tk w0 (w0.alloc (.cells #[.string ⟨#[]⟩, .string ⟨#[]⟩, .slice none 0 0, .slice none 0 0] 31)) P g (w.heap.size + 1 + 1) w.heap.size l bad ⟨#[]⟩ ⟨#[]⟩ (.slice none 0 0) [] (.slice none 0 0) [] := by
  have hz : w0.heap.size = w.heap.size + 1 + 1 := by rw [h0]; simp only [World.size_alloc]
  have hB : Below w.heap.size w w0 := by rw [h0]; exact below_alloc (below_alloc (Below.refl _ _) _) _
  have hq : w0.heap[w.heap.size + 1]? = some (.cells #[.string ⟨#[]⟩, .string ⟨#[]⟩, .slice none 0 0, .slice none 0 0] 31) := by
    rw [h0]
    have := heap_alloc_new (w.alloc (.cells #[.pointer (some ⟨g, 0, none⟩)] 70)) (.cells #[.string ⟨#[]⟩, .string ⟨#[]⟩, .slice none 0 0, .slice none 0 0] 31)
    rwa [World.size_alloc] at this
  have hr : w0.heap[w.heap.size]? = some (.cells #[.pointer (some ⟨g, 0, none⟩)] 70) := by rw [h0]; exact blk_alloc (heap_alloc_new w _) _
  have hE : (w0.alloc (.cells #[.string ⟨#[]⟩, .string ⟨#[]⟩, .slice none 0 0, .slice none 0 0] 31)).heap[w.heap.size + 1 + 1]? = some (.cells #[.string ⟨#[]⟩, .string ⟨#[]⟩, .slice none 0 0, .slice none 0 0] 31) := by rw [← hz]; exact heap_alloc_new w0 _
  have hlt := hI.lt
  have hb1 : Below w.heap.size w (w0.alloc (.cells #[.string ⟨#[]⟩, .string ⟨#[]⟩, .slice none 0 0, .slice none 0 0] 31)) := below_alloc hB _
  refine ⟨hz, hq, hB, hI.below hb1, hE, blk_alloc hr _, Kd.R_nil _ _ _ _ _, Kd.R_nil _ _ _ _ _, KeepBut.of_below (below_alloc (Below.refl _ _) _) g none, (below_alloc (Below.refl w0.heap.size w0) _).mono (by omega), by omega, by omega, by omega, fun k hk => by have := hP k hk; omega, hb⟩
theorem take_walk (P : Nat → Prop) (w : World) (g : Nat) (l : List Int) (bad : Bool) (hI : Rd 98 P w g l bad) (hb : isBytes l) (hP : ∀ k, P k → k < w.heap.size) (x : S31) (c : Int) (l' : List Int) (b' : Bool) (hx : takeE l bad = (x, c, l', b')) :
    Calls Try.prog 32 #[.pointer (some ⟨g, 0, none⟩)] w fun e w' => ∃ v2 v3, e = .returned (.tuple #[.agg #[.string x.f0, .string x.f1, v2, v3], .int .i64 c]) ∧ Kd.string.R 9 w' w.heap.size (fun _ => True) v2 x.f2 ∧ k90.R 90 w' w.heap.size (fun _ => True) v3 x.f3 ∧
      Rd 98 P w' g l' b' ∧ isBytes l' ∧ Below g w w' ∧ KeepBut w w' g none := by
  have HI := Aside0.mk hI
  have HBY := Aside0.mk hb
  have HP := Aside0.mk hP
  have HSZ := Aside0.mk (Nat.le_trans (textOf_size l hb) hI.len)
  have HSY := Aside0.mk (Nat.le_trans (textOf_size (aftT l) (aftT_bytes hb)) (Nat.le_trans (aftT_len l hb) hI.len))
  have HX := Aside0.mk hx
  have HB := Aside0.mk (Below.refl w.heap.size w)
  clear hI hb hP hx
  have hu31 := Try.underlying31
  go_enter Try.func32, Try.ntmps32
  go_upto_region 4 with (fail)
  obtain ⟨w0, hw0⟩ : ∃ w0, w0 = (w.alloc (.cells #[.pointer (some ⟨g, 0, none⟩)] 70)).alloc (.cells #[.string ⟨#[]⟩, .string ⟨#[]⟩, .slice none 0 0, .slice none 0 0] 31) := ⟨_, rfl⟩
  obtain ⟨hz, hq, hB, hT⟩ := take_start w w0 P g l bad hw0 HI.out HBY.out HP.out
  rw [← hw0]
  have HZ := Aside0.mk hz
  have HQ := Aside0.mk hq
  have HB0 := Aside0.mk hB
  have HT1 := Aside0.mk hT
  have HGW := Aside0.mk HI.out.lt
  clear HB HI HBY hw0 hz hq hB hT
  generalize w0.alloc (.cells #[.string ⟨#[]⟩, .string ⟨#[]⟩, .slice none 0 0, .slice none 0 0] 31) = w1 at HT1 ⊢
  obtain ⟨E, hE⟩ : ∃ E, E = w.heap.size + 1 + 1 := ⟨_, rfl⟩
  rw [← hE] at HT1 ⊢
  have HE := Aside0.mk hE
  obtain ⟨Q, hQ⟩ : ∃ Q, Q = w.heap.size + 1 := ⟨_, rfl⟩
  rw [← hQ] at HQ ⊢
  have HQE := Aside0.mk (show Q ≠ E by omega)
  have HQN := Aside0.mk (show Q < w0.heap.size ∧ w.heap.size ≤ Q by rw [HZ.out]; omega)
  obtain ⟨R, hR⟩ : ∃ R, R = w.heap.size := ⟨_, rfl⟩
  rw [← hR] at HT1 ⊢
  clear hE hQ hR
  have hr0 := blk_cell HT1.out.hR 0
  go_wp2_with fail
  refine (text_calls P w1 g l bad HT1.out.rd HT1.out.by_).mono ?_
  rintro e w2 ⟨rfl, hI, hb, hk⟩
  have HT2 := Aside0.mk (HT1.out.read hI hb hk (aftT_bytes HT1.out.by_))
  clear HT1 hI hb hk hr0
  obtain ⟨s, hs⟩ : ∃ s, s = textOf l := ⟨_, rfl⟩
  rw [← hs]
  have HS := Aside0.mk hs
  clear hs
  have he0 := blk_cell HT2.out.hE 0
  have hfz := blk_frozen HT2.out.hE 0
  go_upto_region 5 with (fail)
  have HT3 := Aside0.mk (HT2.out.set0 s)
  clear HT2 he0 hfz
  generalize w2.setCell ⟨E, 0, none⟩ (.string s) = w3 at HT3 ⊢
  have hr0 := blk_cell HT3.out.hR 0
  go_wp2_with fail
  refine (text_calls P w3 g (aftT l) (badT l bad) HT3.out.rd HT3.out.by_).mono ?_
  rintro e w4 ⟨rfl, hI, hb, hk⟩
  have HT4 := Aside0.mk (HT3.out.read hI hb hk (aftT_bytes HT3.out.by_))
  clear HT3 hI hb hk hr0
  obtain ⟨t, ht⟩ : ∃ t, t = textOf (aftT l) := ⟨_, rfl⟩
  rw [← ht]
  have HTT := Aside0.mk ht
  clear ht
  have he0 := blk_cell HT4.out.hE 1
  have hfz := blk_frozen HT4.out.hE 1
  go_upto_region 6 with (fail)
  have HT5 := Aside0.mk (HT4.out.set1 t)
  clear HT4 he0 hfz
  generalize w4.setCell ⟨E, 1, none⟩ (.string t) = w5 at HT5 ⊢
  have hr0 := blk_cell HT5.out.hR 0
  go_wp2_with fail
  obtain ⟨n, hn⟩ : ∃ n, n = numOf (aftT (aftT l)) := ⟨_, rfl⟩
  have HN := Aside0.mk hn
  clear hn
  refine (times_calls (fun i wi => ∃ v, Tk w0 wi P g E R (takeTs i (aft (aftT (aftT l))) (badOf (aftT (aftT l)) (badT (aftT l) (badT l bad)))).2.1 (takeTs i (aft (aftT (aftT l))) (badOf (aftT (aftT l)) (badT (aftT l) (badT l bad)))).2.2 s t v (takeTs i (aft (aftT (aftT l))) (badOf (aftT (aftT l)) (badT (aftT l) (badT l bad)))).1 (.slice none 0 0) []) 6 50 (.pointer (some ⟨E, 0, none⟩)) (.pointer (some ⟨R, 0, none⟩)) P w5 g (aftT (aftT l)) (badT (aftT l) (badT l bad)) HT5.out.rd HT5.out.by_ (by decide) (by decide) (enters_of Try.func50 (by kernel_rfl) rfl)
    (fun w1 h1 h2 h3 => ⟨_, HT5.out.read h1 h2 h3 (aft_bytes HT5.out.by_)⟩) (fun i w1 hi hle hv => by
      obtain ⟨v, hv⟩ := hv
      exact (tag_calls w0 w1 P g E R _ _ s t v _ _ _ hv (by rw [takeTs_len]; omega)).mono (fun e w2 h => h))).mono ?_
  rintro e w6 (⟨hbad, rfl, hI, hb, hk⟩ | ⟨hn0, hn6, rfl, v2, hv⟩)
  · have HT6 := Aside0.mk (HT5.out.read hI hb hk (aft_bytes HT5.out.by_))
    have HBYX := Aside0.mk HT6.out.by_
    have HBAD := Aside0.mk hbad
    clear hI hb hk hr0 hbad
    have HQW := Aside0.mk ((HT6.out.keep.blk HQ.out (by have := HGW.out; have := HQN.out.2; omega) (by simp)))
    have HO := Aside0.mk (Out.of_Tk HT6.out HB0.out HGW.out)
    clear HT6 HT5
    have hq0 := blk_cell HQW.out 0
    have hq1 := blk_cell HQW.out 1
    have hq2 := blk_cell HQW.out 2
    have hq3 := blk_cell HQW.out 3
    have hf0 := blk_frozen HQW.out 0
    have hf1 := blk_frozen HQW.out 1
    have hf2 := blk_frozen HQW.out 2
    have hf3 := blk_frozen HQW.out 3
    go_wp2
    have HQ2 := blk_put (cs' := #[.string ⟨#[]⟩, .string ⟨#[]⟩, .slice none 0 0, .slice none 0 0]) (blk_put (cs' := #[.string ⟨#[]⟩, .string ⟨#[]⟩, .slice none 0 0, .slice none 0 0]) (blk_put (cs' := #[.string ⟨#[]⟩, .string ⟨#[]⟩, .slice none 0 0, .slice none 0 0]) (blk_put (cs' := #[.string ⟨#[]⟩, .string ⟨#[]⟩, .slice none 0 0, .slice none 0 0]) HQW.out 0 (.string ⟨#[]⟩) rfl) 1 (.string ⟨#[]⟩) rfl) 2 (.slice none 0 0) rfl) 3 (.slice none 0 0) rfl
    refine bodyPost_ret (results_ct rfl _ _ Q 31 _ (0, 0) _ rfl HQ2 Try.underlying31 rfl (by kernel_rfl)) rfl ?_
    have hx := HX.out
    rw [takeE_n HBAD.out] at hx
    simp only [Prod.mk.injEq] at hx
    obtain ⟨rfl, rfl, rfl, rfl⟩ := hx
    have ho := (((HO.out.set HGW.out HP.out HQN.out.2 0 (.string ⟨#[]⟩)).set HGW.out HP.out HQN.out.2 1 (.string ⟨#[]⟩)).set HGW.out HP.out HQN.out.2 2 (.slice none 0 0)).set HGW.out HP.out HQN.out.2 3 (.slice none 0 0)
    exact ⟨.slice none 0 0, .slice none 0 0, rfl, Kd.R_nil _ _ _ _ _, Kd.R_nil _ _ _ _ _, ho.1, HBYX.out, ho.2.1, ho.2.2⟩
  · obtain ⟨q, hq⟩ : ∃ q, takeTs (numOf (aftT (aftT l))).toNat (aft (aftT (aftT l))) (badOf (aftT (aftT l)) (badT (aftT l) (badT l bad))) = q := ⟨_, rfl⟩
    rw [hq] at hv
    have hql : q.1.length ≤ 6 := by rw [← hq, takeTs_len]; omega
    have hqs := takeTs_left (aft (aftT (aftT l))) (badOf (aftT (aftT l)) (badT (aftT l) (badT l bad))) (aft_bytes HT5.out.by_) (numOf (aftT (aftT l))).toNat
    rw [hq] at hqs
    have hlen5 := HT5.out.rd.len
    have HZT : Aside0 (∀ x ∈ q.1, x.size ≤ 9223372036854775807) := ⟨fun x hx => Nat.le_trans (hqs.2.2 x hx) (Nat.le_trans (aft_len _ HT5.out.by_) hlen5)⟩
    have HL6 : Aside0 (q.2.1.length ≤ 9223372036854775807) := ⟨Nat.le_trans hqs.2.1 (Nat.le_trans (aft_len _ HT5.out.by_) hlen5)⟩
    have HQQ := Aside0.mk hq
    have HN1 : Aside0 (¬ (numOf (aftT (aftT l)) < 0 ∨ 6 < numOf (aftT (aftT l)))) := ⟨by omega⟩
    have HT6 := Aside0.mk hv
    clear HT5 hr0 hv hq hn0 hn6 hqs hlen5
    obtain ⟨tags, l4, b4⟩ := q
    simp only at HT6 HZT HL6 hql
    have hr0 := blk_cell HT6.out.hR 0
    go_wp2_with fail
    refine (times_calls (fun i wi => ∃ v, Tk w0 wi P g E R (takeFs i (aft l4) (badOf l4 b4)).2.1 (takeFs i (aft l4) (badOf l4 b4)).2.2 s t v2 tags v (takeFs i (aft l4) (badOf l4 b4)).1) 4 51 (.pointer (some ⟨R, 0, none⟩)) (.pointer (some ⟨E, 0, none⟩)) P w6 g l4 b4 HT6.out.rd HT6.out.by_ (by decide) (by decide) (enters_of Try.func51 (by kernel_rfl) rfl)
      (fun w1 h1 h2 h3 => ⟨_, HT6.out.read h1 h2 h3 (aft_bytes HT6.out.by_)⟩) (fun i w1 hi hle hv => by
        obtain ⟨v, hv⟩ := hv
        exact (field_calls w0 w1 P g E R _ _ s t v2 tags v _ hv (by rw [takeFs_len]; omega)).mono (fun e w2 h => h))).mono ?_
    rintro e w7 (⟨hbad, rfl, hI, hb, hk⟩ | ⟨hn0, hn4, rfl, v3, hv⟩)
    · have HT7 := Aside0.mk (HT6.out.read hI hb hk (aft_bytes HT6.out.by_))
      have HBYX := Aside0.mk HT7.out.by_
      have HBAD := Aside0.mk hbad
      clear hI hb hk hr0 hbad HT6
      have HQW := Aside0.mk ((HT7.out.keep.blk HQ.out (by have := HGW.out; have := HQN.out.2; omega) (by simp)))
      have HO := Aside0.mk (Out.of_Tk HT7.out HB0.out HGW.out)
      clear HT7
      have hq0 := blk_cell HQW.out 0
      have hq1 := blk_cell HQW.out 1
      have hq2 := blk_cell HQW.out 2
      have hq3 := blk_cell HQW.out 3
      have hf0 := blk_frozen HQW.out 0
      have hf1 := blk_frozen HQW.out 1
      have hf2 := blk_frozen HQW.out 2
      have hf3 := blk_frozen HQW.out 3
      go_wp2
      have HQ2 := blk_put (cs' := #[.string ⟨#[]⟩, .string ⟨#[]⟩, .slice none 0 0, .slice none 0 0]) (blk_put (cs' := #[.string ⟨#[]⟩, .string ⟨#[]⟩, .slice none 0 0, .slice none 0 0]) (blk_put (cs' := #[.string ⟨#[]⟩, .string ⟨#[]⟩, .slice none 0 0, .slice none 0 0]) (blk_put (cs' := #[.string ⟨#[]⟩, .string ⟨#[]⟩, .slice none 0 0, .slice none 0 0]) HQW.out 0 (.string ⟨#[]⟩) rfl) 1 (.string ⟨#[]⟩) rfl) 2 (.slice none 0 0) rfl) 3 (.slice none 0 0) rfl
      refine bodyPost_ret (results_ct rfl _ _ Q 31 _ (0, 0) _ rfl HQ2 Try.underlying31 rfl (by kernel_rfl)) rfl ?_
      have hx := HX.out
      rw [takeE_m HN1.out HQQ.out HBAD.out] at hx
      simp only [Prod.mk.injEq] at hx
      obtain ⟨rfl, rfl, rfl, rfl⟩ := hx
      have ho := (((HO.out.set HGW.out HP.out HQN.out.2 0 (.string ⟨#[]⟩)).set HGW.out HP.out HQN.out.2 1 (.string ⟨#[]⟩)).set HGW.out HP.out HQN.out.2 2 (.slice none 0 0)).set HGW.out HP.out HQN.out.2 3 (.slice none 0 0)
      exact ⟨.slice none 0 0, .slice none 0 0, rfl, Kd.R_nil _ _ _ _ _, Kd.R_nil _ _ _ _ _, ho.1, HBYX.out, ho.2.1, ho.2.2⟩
    · obtain ⟨q2, hq2⟩ : ∃ q2, takeFs (numOf l4).toNat (aft l4) (badOf l4 b4) = q2 := ⟨_, rfl⟩
      rw [hq2] at hv
      have hqs := takeFs_left (aft l4) (badOf l4 b4) (aft_bytes HT6.out.by_) (numOf l4).toNat
      rw [hq2] at hqs
      have hql2 : q2.1.length ≤ 4 := by rw [← hq2, takeFs_len]; omega
      have HZF : Aside0 (∀ x ∈ q2.1, x.f0.size ≤ 9223372036854775807) := ⟨fun x hx => Nat.le_trans (hqs.2.2 x hx) (Nat.le_trans (aft_len _ HT6.out.by_) HL6.out)⟩
      have HQ2 := Aside0.mk hq2
      have HN2 : Aside0 (¬ (numOf l4 < 0 ∨ 4 < numOf l4)) := ⟨by omega⟩
      have HT7 := Aside0.mk hv
      have HR := Aside0.mk (takeE_r HN1.out HQQ.out HN2.out hq2)
      clear HT6 hr0 hv hq2 hn0 hn4 hqs HQ2 HQQ HN1 HN2
      obtain ⟨fl, l6, b6⟩ := q2
      simp only at HT7 HZF hql2 HR
      have HBYX := Aside0.mk HT7.out.by_
      have hr0 := blk_cell HT7.out.hR 0
      go_wp2_with fail
      refine (bad_calls P w7 g l6 b6 HT7.out.rd).mono ?_
      rintro e w8 ⟨rfl, rfl⟩
      cases b6 with
      | true =>
        have HR2 := Aside0.mk (HR.out.trans (if_pos (.inl rfl)))
        clear hr0 HR
        have HQW := Aside0.mk ((HT7.out.keep.blk HQ.out (by have := HGW.out; have := HQN.out.2; omega) (by simp)))
        have HO := Aside0.mk (Out.of_Tk HT7.out HB0.out HGW.out)
        clear HT7
        have hq0 := blk_cell HQW.out 0
        have hq1 := blk_cell HQW.out 1
        have hq2 := blk_cell HQW.out 2
        have hq3 := blk_cell HQW.out 3
        have hf0 := blk_frozen HQW.out 0
        have hf1 := blk_frozen HQW.out 1
        have hf2 := blk_frozen HQW.out 2
        have hf3 := blk_frozen HQW.out 3
        go_wp2
        have HQ2 := blk_put (cs' := #[.string ⟨#[]⟩, .string ⟨#[]⟩, .slice none 0 0, .slice none 0 0]) (blk_put (cs' := #[.string ⟨#[]⟩, .string ⟨#[]⟩, .slice none 0 0, .slice none 0 0]) (blk_put (cs' := #[.string ⟨#[]⟩, .string ⟨#[]⟩, .slice none 0 0, .slice none 0 0]) (blk_put (cs' := #[.string ⟨#[]⟩, .string ⟨#[]⟩, .slice none 0 0, .slice none 0 0]) HQW.out 0 (.string ⟨#[]⟩) rfl) 1 (.string ⟨#[]⟩) rfl) 2 (.slice none 0 0) rfl) 3 (.slice none 0 0) rfl
        refine bodyPost_ret (results_ct rfl _ _ Q 31 _ (0, 0) _ rfl HQ2 Try.underlying31 rfl (by kernel_rfl)) rfl ?_
        have hx := HX.out
        rw [HR2.out] at hx
        simp only [Prod.mk.injEq] at hx
        obtain ⟨rfl, rfl, rfl, rfl⟩ := hx
        have ho := (((HO.out.set HGW.out HP.out HQN.out.2 0 (.string ⟨#[]⟩)).set HGW.out HP.out HQN.out.2 1 (.string ⟨#[]⟩)).set HGW.out HP.out HQN.out.2 2 (.slice none 0 0)).set HGW.out HP.out HQN.out.2 3 (.slice none 0 0)
        exact ⟨.slice none 0 0, .slice none 0 0, rfl, Kd.R_nil _ _ _ _ _, Kd.R_nil _ _ _ _ _, ho.1, HBYX.out, ho.2.1, ho.2.2⟩
      | false =>
        obtain ⟨A2, c2, e2, hc2, hC2⟩ := Kd.R_reads HT7.out.r2
        subst e2
        obtain ⟨A3, c3, e3, hc3, hC3⟩ := Kd.R_reads HT7.out.r3
        subst e3
        have HC2 := Aside0.mk hC2
        have HC3 := Aside0.mk hC3
        have he0 := blk_cell HT7.out.hE 0
        have he1 := blk_cell HT7.out.hE 1
        have he2 := blk_cell HT7.out.hE 2
        have he3 := blk_cell HT7.out.hE 3
        clear hC2 hC3
        go_wp2_with fail
        refine (eventMay_calls s t A2 A3 c2 c3 tags fl w7 HC2.out hc2 HC3.out hc3 (by rw [HS.out]; exact HSZ.out) (by rw [HTT.out]; exact HSY.out) HZT.out HZF.out (by omega)).mono ?_
        rintro e w8 ⟨rfl, hb⟩
        have HT8 := Aside0.mk (HT7.out.up hb)
        clear HT7 hb he0 he1 he2 he3 hr0 HC2 HC3
        obtain ⟨m, hm⟩ : ∃ m, m = mayE s t tags fl := ⟨_, rfl⟩
        rw [← hm]
        have HM := Aside0.mk hm
        clear hm
        by_cases h0 : m = 0
        · have hbn : (m != 0) = false := bne_eq_false_iff_eq.mpr h0
          have HR2 := Aside0.mk (HR.out.trans (if_neg (by rintro (h | h); (· cases h); exact h (by rw [← HS.out, ← HTT.out, ← HM.out]; exact h0))))
          clear h0 HR
          have HQW := Aside0.mk ((HT8.out.keep.blk HQ.out (by have := HGW.out; have := HQN.out.2; omega) (by simp)))
          have HO := Aside0.mk (Out.of_Tk HT8.out HB0.out HGW.out)
          have hq0 := blk_cell HQW.out 0
          have hq1 := blk_cell HQW.out 1
          have hq2 := blk_cell HQW.out 2
          have hq3 := blk_cell HQW.out 3
          have hf0 := blk_frozen HQW.out 0
          have hf1 := blk_frozen HQW.out 1
          have hf2 := blk_frozen HQW.out 2
          have hf3 := blk_frozen HQW.out 3
          have he0 := blk_cell HT8.out.hE 0
          have he1 := blk_cell HT8.out.hE 1
          have he2 := blk_cell HT8.out.hE 2
          have he3 := blk_cell HT8.out.hE 3
          go_wp2
          have HQ2 := blk_put (cs' := #[.string s, .string t, .slice A2 tags.length c2, .slice A3 fl.length c3]) (blk_put (cs' := #[.string s, .string t, .slice A2 tags.length c2, .slice none 0 0]) (blk_put (cs' := #[.string s, .string t, .slice none 0 0, .slice none 0 0]) (blk_put (cs' := #[.string s, .string ⟨#[]⟩, .slice none 0 0, .slice none 0 0]) HQW.out 0 (.string s) rfl) 1 (.string t) rfl) 2 (.slice A2 tags.length c2) rfl) 3 (.slice A3 fl.length c3) rfl
          refine bodyPost_ret (results_ct rfl _ _ Q 31 _ (0, 0) _ rfl HQ2 Try.underlying31 rfl (by kernel_rfl)) rfl ?_
          have hx := HX.out
          rw [HR2.out] at hx
          simp only [Prod.mk.injEq] at hx
          obtain ⟨rfl, rfl, rfl, rfl⟩ := hx
          have ho := (((HO.out.set HGW.out HP.out HQN.out.2 0 (.string s)).set HGW.out HP.out HQN.out.2 1 (.string t)).set HGW.out HP.out HQN.out.2 2 (.slice A2 tags.length c2)).set HGW.out HP.out HQN.out.2 3 (.slice A3 fl.length c3)
          exact ⟨.slice A2 tags.length c2, .slice A3 fl.length c3, by rw [HS.out, HTT.out]; rfl, Kd.R_lower (R_set4 HT8.out.r2 HQW.out (by decide) _ _ _ _) HB0.out.size, Kd.R_lower (R_set4 HT8.out.r3 HQW.out (by decide) _ _ _ _) HB0.out.size, ho.1, HBYX.out, ho.2.1, ho.2.2⟩
        · have hbn : (m != 0) = true := bne_iff_ne.mpr h0
          have HR2 := Aside0.mk (HR.out.trans (if_pos (.inr (by rw [← HS.out, ← HTT.out, ← HM.out]; exact h0))))
          clear h0 HR
          have HQW := Aside0.mk ((HT8.out.keep.blk HQ.out (by have := HGW.out; have := HQN.out.2; omega) (by simp)))
          have HO := Aside0.mk (Out.of_Tk HT8.out HB0.out HGW.out)
          clear HT8
          have hq0 := blk_cell HQW.out 0
          have hq1 := blk_cell HQW.out 1
          have hq2 := blk_cell HQW.out 2
          have hq3 := blk_cell HQW.out 3
          have hf0 := blk_frozen HQW.out 0
          have hf1 := blk_frozen HQW.out 1
          have hf2 := blk_frozen HQW.out 2
          have hf3 := blk_frozen HQW.out 3
          go_wp2
          have HQ2 := blk_put (cs' := #[.string ⟨#[]⟩, .string ⟨#[]⟩, .slice none 0 0, .slice none 0 0]) (blk_put (cs' := #[.string ⟨#[]⟩, .string ⟨#[]⟩, .slice none 0 0, .slice none 0 0]) (blk_put (cs' := #[.string ⟨#[]⟩, .string ⟨#[]⟩, .slice none 0 0, .slice none 0 0]) (blk_put (cs' := #[.string ⟨#[]⟩, .string ⟨#[]⟩, .slice none 0 0, .slice none 0 0]) HQW.out 0 (.string ⟨#[]⟩) rfl) 1 (.string ⟨#[]⟩) rfl) 2 (.slice none 0 0) rfl) 3 (.slice none 0 0) rfl
          refine bodyPost_ret (results_ct rfl _ _ Q 31 _ (0, 0) _ rfl HQ2 Try.underlying31 rfl (by kernel_rfl)) rfl ?_
          have hx := HX.out
          rw [HR2.out] at hx
          simp only [Prod.mk.injEq] at hx
          obtain ⟨rfl, rfl, rfl, rfl⟩ := hx
          have ho := (((HO.out.set HGW.out HP.out HQN.out.2 0 (.string ⟨#[]⟩)).set HGW.out HP.out HQN.out.2 1 (.string ⟨#[]⟩)).set HGW.out HP.out HQN.out.2 2 (.slice none 0 0)).set HGW.out HP.out HQN.out.2 3 (.slice none 0 0)
          exact ⟨.slice none 0 0, .slice none 0 0, rfl, Kd.R_nil _ _ _ _ _, Kd.R_nil _ _ _ _ _, ho.1, HBYX.out, ho.2.1, ho.2.2⟩
end Go.Proofs.Ytocpcnmnhckcpaa.Num
namespace Go.Proofs.Ytocpcnmnhckcpaa.Prt
open Go.RowKit Go.Proofs.YtocpcnmnhckcpaaW.PrintWords Go.Proofs.YtocpcnmnhckcpaaW.PrintLast Go.Proofs.YtocpcnmnhckcpaaW.PrintMore Go.Proofs.Ytocpcnmnhckcpaa.Num Go.Proofs.Ytocpcnmnhckcpaa.Nam
set_option linter.unusedVariables false
set_option linter.unusedSimpArgs false

end Go.Proofs.Ytocpcnmnhckcpaa.Prt
namespace Go.Proofs.Ytocpcnmnhckcpaa.Prt
open Go.RowKit Go.Proofs.YtocpcnmnhckcpaaW.PrintWords Go.Proofs.YtocpcnmnhckcpaaW.PrintLast Go.Proofs.YtocpcnmnhckcpaaW.PrintMore
attribute [local go_sem] max2_int min2_int max_two min_two max_three min_three max_four min_four   -- for this text's walks alone
set_option linter.unusedVariables false
set_option linter.unusedSimpArgs false

theorem eqA90 (d : Nat) (w : World) (x0 y0 : ByteArray) (x1 y1 : Int) :
    (Op.equalIn (d + 2) 90 (.agg #[.string x0, .int .i64 x1]) (.agg #[.string y0, .int .i64 y1])).run Try.prog w = .ok (x0.toList == y0.toList && (x1 == y1)) w := by
  refine eqA_of Try.underlying90 (by kernel_rfl) ?_
  refine eqf_cons (by rfl) (by go_simp; rfl) (by go_simp; rfl) (by go_simp) ?_
  exact eqf_last (by rfl) (by go_simp; rfl) (by go_simp; rfl) (by go_simp)
end Go.Proofs.Ytocpcnmnhckcpaa.Prt
namespace Go.Proofs.Ytocpcnmnhckcpaa.Prt
open Go.RowKit Go.Proofs.YtocpcnmnhckcpaaW.PrintWords Go.Proofs.YtocpcnmnhckcpaaW.PrintLast Go.Proofs.YtocpcnmnhckcpaaW.PrintMore
attribute [local go_sem] max2_int min2_int max_two min_two max_three min_three max_four min_four   -- for this text's walks alone
set_option linter.unusedVariables false
set_option linter.unusedSimpArgs false

attribute [local go_sem high] eqA90
mutual
def registrarref04_Same.j0 : Nat → Bool → ByteArray → ByteArray → List ByteArray → List (S90) → ByteArray → ByteArray → List ByteArray → List (S90) → Option (Bool)
  | 0, _, _, _, _, _, _, _, _, _ => none
  | k + 1, x36, x159000, x159001, x159002, x159003, x160000, x160001, x160002, x160003 => if x36 = true then (some false) else (registrarref04_Same.l0 k 0 x159000 x159001 x159002 x159003 x160000 x160001 x160002 x160003)
def registrarref04_Same.l0 : Nat → Int → ByteArray → ByteArray → List ByteArray → List (S90) → ByteArray → ByteArray → List ByteArray → List (S90) → Option (Bool)
  | 0, _, _, _, _, _, _, _, _, _ => none
  | k + 1, x6, x159000, x159001, x159002, x159003, x160000, x160001, x160002, x160003 => if x6 < (x159003.length : Int) then (if 0 ≤ x6 then (if x6 < (x160003.length : Int) then (if (!((((rd_T90 x159003 x6).f0).toList) == (((rd_T90 x160003 x6).f0).toList)) || (!(((rd_T90 x159003 x6).f1) == ((rd_T90 x160003 x6).f1)))) = true then (some false) else (registrarref04_Same.l0 k (wrap64 (x6 + 1)) x159000 x159001 x159002 x159003 x160000 x160001 x160002 x160003)) else (none)) else (none)) else (some true)
end
def registrarref04_Same.f (k : Nat) (a0_0 : ByteArray) (a0_1 : ByteArray) (l0_2 : List ByteArray) (l0_3 : List (S90)) (a1_0 : ByteArray) (a1_1 : ByteArray) (l1_2 : List ByteArray) (l1_3 : List (S90)) : Option (Bool) := (registrarref04_TextsG.f l0_2 l1_2).bind fun t160 => (if a0_0.toList = a1_0.toList then (if a0_1.toList = a1_1.toList then (if t160 = true then (registrarref04_Same.j0 k ((l0_3.length : Int) != (l1_3.length : Int)) a0_0 a0_1 l0_2 l0_3 a1_0 a1_1 l1_2 l1_3) else (registrarref04_Same.j0 k true a0_0 a0_1 l0_2 l0_3 a1_0 a1_1 l1_2 l1_3)) else (registrarref04_Same.j0 k true a0_0 a0_1 l0_2 l0_3 a1_0 a1_1 l1_2 l1_3)) else (registrarref04_Same.j0 k true a0_0 a0_1 l0_2 l0_3 a1_0 a1_1 l1_2 l1_3))
set_option maxHeartbeats 8000000 in
set_option maxRecDepth 100000 in
theorem registrarref04_Same.calls (k : Nat) (a0_0 : ByteArray) (a0_1 : ByteArray) (A0_2 : Option Addr) (c0_2 : Nat) (l0_2 : List ByteArray) (A0_3 : Option Addr) (c0_3 : Nat) (l0_3 : List (S90)) (a1_0 : ByteArray) (a1_1 : ByteArray) (A1_2 : Option Addr) (c1_2 : Nat) (l1_2 : List ByteArray) (A1_3 : Option Addr) (c1_3 : Nat) (l1_3 : List (S90)) (r : Bool) (w : World) (hr0_2 : Kd.C Kd.string w A0_2 l0_2.length l0_2) (hc0_2 : l0_2.length ≤ c0_2) (hr0_3 : Kd.C k90 w A0_3 l0_3.length l0_3) (hc0_3 : l0_3.length ≤ c0_3) (hr1_2 : Kd.C Kd.string w A1_2 l1_2.length l1_2) (hc1_2 : l1_2.length ≤ c1_2) (hr1_3 : Kd.C k90 w A1_3 l1_3.length l1_3) (hc1_3 : l1_3.length ≤ c1_3) (h : registrarref04_Same.f k a0_0 a0_1 l0_2 l0_3 a1_0 a1_1 l1_2 l1_3 = some r) :
    Calls Try.prog 20 #[.agg #[.string a0_0, .string a0_1, .slice A0_2 l0_2.length c0_2, .slice A0_3 l0_3.length c0_3], .agg #[.string a1_0, .string a1_1, .slice A1_2 l1_2.length c1_2, .slice A1_3 l1_3.length c1_3]] w fun e w' => e = .returned (.bool r) ∧ Below w.heap.size w w' := by
  have hu31 := Try.underlying31
  have hu90 := Try.underlying90
  have HR0_2 := Aside0.mk hr0_2
  have HC0_2 := Aside0.mk hc0_2
  clear hr0_2 hc0_2
  have HR0_3 := Aside0.mk hr0_3
  have HC0_3 := Aside0.mk hc0_3
  clear hr0_3 hc0_3
  have HR1_2 := Aside0.mk hr1_2
  have HC1_2 := Aside0.mk hc1_2
  clear hr1_2 hc1_2
  have HR1_3 := Aside0.mk hr1_3
  have HC1_3 := Aside0.mk hc1_3
  clear hr1_3 hc1_3
  have HB := Aside0.mk (Below.refl w.heap.size w)
  have H : ((registrarref04_TextsG.f l0_2 l1_2).bind fun t160 => (if a0_0.toList = a1_0.toList then (if a0_1.toList = a1_1.toList then (if t160 = true then (registrarref04_Same.j0 k ((l0_3.length : Int) != (l1_3.length : Int)) a0_0 a0_1 l0_2 l0_3 a1_0 a1_1 l1_2 l1_3) else (registrarref04_Same.j0 k true a0_0 a0_1 l0_2 l0_3 a1_0 a1_1 l1_2 l1_3)) else (registrarref04_Same.j0 k true a0_0 a0_1 l0_2 l0_3 a1_0 a1_1 l1_2 l1_3)) else (registrarref04_Same.j0 k true a0_0 a0_1 l0_2 l0_3 a1_0 a1_1 l1_2 l1_3))) = some r := h
  clear h
  replace H := Option.bind_eq_some_iff.mp H
  obtain ⟨t160, A30, H⟩ := H
  replace H : (if a0_0.toList = a1_0.toList then (if a0_1.toList = a1_1.toList then (if t160 = true then (registrarref04_Same.j0 k ((l0_3.length : Int) != (l1_3.length : Int)) a0_0 a0_1 l0_2 l0_3 a1_0 a1_1 l1_2 l1_3) else (registrarref04_Same.j0 k true a0_0 a0_1 l0_2 l0_3 a1_0 a1_1 l1_2 l1_3)) else (registrarref04_Same.j0 k true a0_0 a0_1 l0_2 l0_3 a1_0 a1_1 l1_2 l1_3)) else (registrarref04_Same.j0 k true a0_0 a0_1 l0_2 l0_3 a1_0 a1_1 l1_2 l1_3)) = some r := H
  have A3 := Aside0.mk A30
  clear A30
  have HC4 := Aside0.mk H
  clear H
  go_enter Try.func20, Try.ntmps20
  go_upto_region 2 with (first | ((with_reducible refine gate_dst (N := 2) rfl ?_); (try (refine gate_guard (by rfl) ?_; dsimp only)); refine box_event ?hg (N := 2) ?hd (cs := #[.string a0_0, .string a0_1, .slice A0_2 l0_2.length c0_2, .slice A0_3 l0_3.length c0_3]) (t := 31) ?hr ?_; (case hd => rfl); (case hg => rfl); (case hr => first | (go_simp; done) | (go_simp; rfl)); intro gb158 hg w5 hbox hb; have n0_ := Aside0.mk (below_step (by repeat (first | (with_reducible first | exact HB.out | apply below_alloc | apply pw_below_drewN | apply below_drew1) | exact HB.out)) hb); have n1_ := Aside0.mk (hbox); have n2_ := Aside0.mk ((by rw [hg]; exact (below_size (by repeat (first | (with_reducible first | exact HB.out | apply below_alloc | apply pw_below_drewN | apply below_drew1) | exact HB.out))) : w.heap.size ≤ gb158)); have n3_ := Aside0.mk ((by rw [hg]; exact (below_size (by repeat (first | (with_reducible first | exact HB.out | apply below_alloc | apply pw_below_drewN | apply below_drew1) | exact HB.out))) : w.heap.size ≤ gb158)); clear HB; have HB := n0_; have BK158 := n1_; have GW158 := n2_; have GE158 := n3_; clear n0_ n1_ n2_ n3_; clear hb hbox hg) | ((with_reducible refine gate_dst (N := 3) rfl ?_); (try (refine gate_guard (by rfl) ?_; dsimp only)); refine box_event ?hg (N := 3) ?hd (cs := #[.string a1_0, .string a1_1, .slice A1_2 l1_2.length c1_2, .slice A1_3 l1_3.length c1_3]) (t := 31) ?hr ?_; (case hd => rfl); (case hg => rfl); (case hr => first | (go_simp; done) | (go_simp; rfl)); intro gb159 hg w6 hbox hb; have n0_ := Aside0.mk (blk_below (g := gb158) (o := .cells #[.string a0_0, .string a0_1, .slice A0_2 l0_2.length c0_2, .slice A0_3 l0_3.length c0_3] 31 (0, 0)) (by (with_reducible repeat (first | refine blk_drewN ?_ _ | refine blk_drew ?_ | refine blk_alloc ?_ _)); exact BK158.out) hb); have n1_ := Aside0.mk (below_step (by repeat (first | (with_reducible first | exact HB.out | apply below_alloc | apply pw_below_drewN | apply below_drew1 | refine below_set ?_ GE158.out) | exact HB.out)) hb); have n2_ := Aside0.mk (hbox); have n3_ := Aside0.mk ((by rw [hg]; exact (below_size (by repeat (first | (with_reducible first | exact HB.out | apply below_alloc | apply pw_below_drewN | apply below_drew1 | refine below_set ?_ GE158.out) | exact HB.out))) : w.heap.size ≤ gb159)); have n4_ := Aside0.mk ((by rw [hg]; exact (below_size (by repeat (first | (with_reducible first | exact HB.out | apply below_alloc | apply pw_below_drewN | apply below_drew1 | refine below_set ?_ GE158.out) | exact HB.out))) : w.heap.size ≤ gb159)); have n5_ := Aside0.mk ((by rw [hg]; exact Nat.ne_of_lt (blk_lt (g := gb158) (o := .cells #[.string a0_0, .string a0_1, .slice A0_2 l0_2.length c0_2, .slice A0_3 l0_3.length c0_3] 31 (0, 0)) (by (with_reducible repeat (first | refine blk_drewN ?_ _ | refine blk_drew ?_ | refine blk_alloc ?_ _)); exact BK158.out)) : gb158 ≠ gb159)); have n6_ := Aside0.mk ((by rw [hg]; exact Nat.ne_of_gt (blk_lt (g := gb158) (o := .cells #[.string a0_0, .string a0_1, .slice A0_2 l0_2.length c0_2, .slice A0_3 l0_3.length c0_3] 31 (0, 0)) (by (with_reducible repeat (first | refine blk_drewN ?_ _ | refine blk_drew ?_ | refine blk_alloc ?_ _)); exact BK158.out)) : gb159 ≠ gb158)); clear BK158; clear HB; have BK158 := n0_; have HB := n1_; have BK159 := n2_; have GW159 := n3_; have GE159 := n4_; have NB158_159 := n5_; have NB159_158 := n6_; clear n0_ n1_ n2_ n3_ n4_ n5_ n6_; clear hb hbox hg; have hnb7 := NB158_159.out; have hnc7 := NB159_158.out; have hcz8_0 : w6.cell? ⟨gb158, 0, none⟩ = some (.string a0_0) := (blk_cell BK158.out 0).trans rfl; have hcz8_1 : w6.cell? ⟨gb158, 1, none⟩ = some (.string a0_1) := (blk_cell BK158.out 1).trans rfl; have hcz8_2 : w6.cell? ⟨gb158, 2, none⟩ = some (.slice A0_2 l0_2.length c0_2) := (blk_cell BK158.out 2).trans rfl; have hcz8_3 : w6.cell? ⟨gb158, 3, none⟩ = some (.slice A0_3 l0_3.length c0_3) := (blk_cell BK158.out 3).trans rfl; have hfz8_0 := blk_frozen BK158.out 0; have hfz8_1 := blk_frozen BK158.out 1; have hfz8_2 := blk_frozen BK158.out 2; have hfz8_3 := blk_frozen BK158.out 3; have hcz9_0 : w6.cell? ⟨gb159, 0, none⟩ = some (.string a1_0) := (blk_cell BK159.out 0).trans rfl; have hcz9_1 : w6.cell? ⟨gb159, 1, none⟩ = some (.string a1_1) := (blk_cell BK159.out 1).trans rfl; have hcz9_2 : w6.cell? ⟨gb159, 2, none⟩ = some (.slice A1_2 l1_2.length c1_2) := (blk_cell BK159.out 2).trans rfl; have hcz9_3 : w6.cell? ⟨gb159, 3, none⟩ = some (.slice A1_3 l1_3.length c1_3) := (blk_cell BK159.out 3).trans rfl; have hfz9_0 := blk_frozen BK159.out 0; have hfz9_1 := blk_frozen BK159.out 1; have hfz9_2 := blk_frozen BK159.out 2; have hfz9_3 := blk_frozen BK159.out 3) | (go_at_call 44; (with_reducible refine (registrarref04_TextsG.calls _ _ l0_2 _ _ l1_2 t160 _ ?side1 ?side2 ?side3 ?side4 A3.out).mono ?_); (case side1 => repeat (first | exact (Kd.C_below HR0_2.out HB.out) | (with_reducible refine Kd.C_alloc ?_ _) | (with_reducible refine Kd.C_drewN ?_ _) | (with_reducible refine Kd.C_drew ?_))); (case side2 => exact HC0_2.out); (case side3 => repeat (first | exact (Kd.C_below HR1_2.out HB.out) | (with_reducible refine Kd.C_alloc ?_ _) | (with_reducible refine Kd.C_drewN ?_ _) | (with_reducible refine Kd.C_drew ?_))); (case side4 => exact HC1_2.out); rintro e w' ⟨rfl, ⟨nd, rfl⟩⟩; (try first | exact ⟨rfl, _, World.drewN_drewN _ _ _⟩ | exact ⟨rfl, _, Eq.trans (World.drewN_drewN _ _ _) (congrArg (World.drewN _) (Nat.add_assoc _ _ _))⟩)))
  repeat (go_quiet (first | ((with_reducible refine gate_dst (N := 2) rfl ?_); (try (refine gate_guard (by rfl) ?_; dsimp only)); refine box_event ?hg (N := 2) ?hd (cs := #[.string a0_0, .string a0_1, .slice A0_2 l0_2.length c0_2, .slice A0_3 l0_3.length c0_3]) (t := 31) ?hr ?_; (case hd => rfl); (case hg => rfl); (case hr => first | (go_simp; done) | (go_simp; rfl)); intro gb158 hg w5 hbox hb; have n0_ := Aside0.mk (below_step (by repeat (first | (with_reducible first | exact HB.out | apply below_alloc | apply pw_below_drewN | apply below_drew1) | exact HB.out)) hb); have n1_ := Aside0.mk (hbox); have n2_ := Aside0.mk ((by rw [hg]; exact (below_size (by repeat (first | (with_reducible first | exact HB.out | apply below_alloc | apply pw_below_drewN | apply below_drew1) | exact HB.out))) : w.heap.size ≤ gb158)); have n3_ := Aside0.mk ((by rw [hg]; exact (below_size (by repeat (first | (with_reducible first | exact HB.out | apply below_alloc | apply pw_below_drewN | apply below_drew1) | exact HB.out))) : w.heap.size ≤ gb158)); clear HB; have HB := n0_; have BK158 := n1_; have GW158 := n2_; have GE158 := n3_; clear n0_ n1_ n2_ n3_; clear hb hbox hg) | ((with_reducible refine gate_dst (N := 3) rfl ?_); (try (refine gate_guard (by rfl) ?_; dsimp only)); refine box_event ?hg (N := 3) ?hd (cs := #[.string a1_0, .string a1_1, .slice A1_2 l1_2.length c1_2, .slice A1_3 l1_3.length c1_3]) (t := 31) ?hr ?_; (case hd => rfl); (case hg => rfl); (case hr => first | (go_simp; done) | (go_simp; rfl)); intro gb159 hg w6 hbox hb; have n0_ := Aside0.mk (blk_below (g := gb158) (o := .cells #[.string a0_0, .string a0_1, .slice A0_2 l0_2.length c0_2, .slice A0_3 l0_3.length c0_3] 31 (0, 0)) (by (with_reducible repeat (first | refine blk_drewN ?_ _ | refine blk_drew ?_ | refine blk_alloc ?_ _)); exact BK158.out) hb); have n1_ := Aside0.mk (below_step (by repeat (first | (with_reducible first | exact HB.out | apply below_alloc | apply pw_below_drewN | apply below_drew1 | refine below_set ?_ GE158.out) | exact HB.out)) hb); have n2_ := Aside0.mk (hbox); have n3_ := Aside0.mk ((by rw [hg]; exact (below_size (by repeat (first | (with_reducible first | exact HB.out | apply below_alloc | apply pw_below_drewN | apply below_drew1 | refine below_set ?_ GE158.out) | exact HB.out))) : w.heap.size ≤ gb159)); have n4_ := Aside0.mk ((by rw [hg]; exact (below_size (by repeat (first | (with_reducible first | exact HB.out | apply below_alloc | apply pw_below_drewN | apply below_drew1 | refine below_set ?_ GE158.out) | exact HB.out))) : w.heap.size ≤ gb159)); have n5_ := Aside0.mk ((by rw [hg]; exact Nat.ne_of_lt (blk_lt (g := gb158) (o := .cells #[.string a0_0, .string a0_1, .slice A0_2 l0_2.length c0_2, .slice A0_3 l0_3.length c0_3] 31 (0, 0)) (by (with_reducible repeat (first | refine blk_drewN ?_ _ | refine blk_drew ?_ | refine blk_alloc ?_ _)); exact BK158.out)) : gb158 ≠ gb159)); have n6_ := Aside0.mk ((by rw [hg]; exact Nat.ne_of_gt (blk_lt (g := gb158) (o := .cells #[.string a0_0, .string a0_1, .slice A0_2 l0_2.length c0_2, .slice A0_3 l0_3.length c0_3] 31 (0, 0)) (by (with_reducible repeat (first | refine blk_drewN ?_ _ | refine blk_drew ?_ | refine blk_alloc ?_ _)); exact BK158.out)) : gb159 ≠ gb158)); clear BK158; clear HB; have BK158 := n0_; have HB := n1_; have BK159 := n2_; have GW159 := n3_; have GE159 := n4_; have NB158_159 := n5_; have NB159_158 := n6_; clear n0_ n1_ n2_ n3_ n4_ n5_ n6_; clear hb hbox hg; have hnb7 := NB158_159.out; have hnc7 := NB159_158.out; have hcz8_0 : w6.cell? ⟨gb158, 0, none⟩ = some (.string a0_0) := (blk_cell BK158.out 0).trans rfl; have hcz8_1 : w6.cell? ⟨gb158, 1, none⟩ = some (.string a0_1) := (blk_cell BK158.out 1).trans rfl; have hcz8_2 : w6.cell? ⟨gb158, 2, none⟩ = some (.slice A0_2 l0_2.length c0_2) := (blk_cell BK158.out 2).trans rfl; have hcz8_3 : w6.cell? ⟨gb158, 3, none⟩ = some (.slice A0_3 l0_3.length c0_3) := (blk_cell BK158.out 3).trans rfl; have hfz8_0 := blk_frozen BK158.out 0; have hfz8_1 := blk_frozen BK158.out 1; have hfz8_2 := blk_frozen BK158.out 2; have hfz8_3 := blk_frozen BK158.out 3; have hcz9_0 : w6.cell? ⟨gb159, 0, none⟩ = some (.string a1_0) := (blk_cell BK159.out 0).trans rfl; have hcz9_1 : w6.cell? ⟨gb159, 1, none⟩ = some (.string a1_1) := (blk_cell BK159.out 1).trans rfl; have hcz9_2 : w6.cell? ⟨gb159, 2, none⟩ = some (.slice A1_2 l1_2.length c1_2) := (blk_cell BK159.out 2).trans rfl; have hcz9_3 : w6.cell? ⟨gb159, 3, none⟩ = some (.slice A1_3 l1_3.length c1_3) := (blk_cell BK159.out 3).trans rfl; have hfz9_0 := blk_frozen BK159.out 0; have hfz9_1 := blk_frozen BK159.out 1; have hfz9_2 := blk_frozen BK159.out 2; have hfz9_3 := blk_frozen BK159.out 3) | (go_at_call 44; (with_reducible refine (registrarref04_TextsG.calls _ _ l0_2 _ _ l1_2 t160 _ ?side1 ?side2 ?side3 ?side4 A3.out).mono ?_); (case side1 => repeat (first | exact (Kd.C_below HR0_2.out HB.out) | (with_reducible refine Kd.C_alloc ?_ _) | (with_reducible refine Kd.C_drewN ?_ _) | (with_reducible refine Kd.C_drew ?_))); (case side2 => exact HC0_2.out); (case side3 => repeat (first | exact (Kd.C_below HR1_2.out HB.out) | (with_reducible refine Kd.C_alloc ?_ _) | (with_reducible refine Kd.C_drewN ?_ _) | (with_reducible refine Kd.C_drew ?_))); (case side4 => exact HC1_2.out); rintro e w' ⟨rfl, ⟨nd, rfl⟩⟩; (try first | exact ⟨rfl, _, World.drewN_drewN _ _ _⟩ | exact ⟨rfl, _, Eq.trans (World.drewN_drewN _ _ _) (congrArg (World.drewN _) (Nat.add_assoc _ _ _))⟩))); go_upto_region 2 with (first | ((with_reducible refine gate_dst (N := 2) rfl ?_); (try (refine gate_guard (by rfl) ?_; dsimp only)); refine box_event ?hg (N := 2) ?hd (cs := #[.string a0_0, .string a0_1, .slice A0_2 l0_2.length c0_2, .slice A0_3 l0_3.length c0_3]) (t := 31) ?hr ?_; (case hd => rfl); (case hg => rfl); (case hr => first | (go_simp; done) | (go_simp; rfl)); intro gb158 hg w5 hbox hb; have n0_ := Aside0.mk (below_step (by repeat (first | (with_reducible first | exact HB.out | apply below_alloc | apply pw_below_drewN | apply below_drew1) | exact HB.out)) hb); have n1_ := Aside0.mk (hbox); have n2_ := Aside0.mk ((by rw [hg]; exact (below_size (by repeat (first | (with_reducible first | exact HB.out | apply below_alloc | apply pw_below_drewN | apply below_drew1) | exact HB.out))) : w.heap.size ≤ gb158)); have n3_ := Aside0.mk ((by rw [hg]; exact (below_size (by repeat (first | (with_reducible first | exact HB.out | apply below_alloc | apply pw_below_drewN | apply below_drew1) | exact HB.out))) : w.heap.size ≤ gb158)); clear HB; have HB := n0_; have BK158 := n1_; have GW158 := n2_; have GE158 := n3_; clear n0_ n1_ n2_ n3_; clear hb hbox hg) | ((with_reducible refine gate_dst (N := 3) rfl ?_); (try (refine gate_guard (by rfl) ?_; dsimp only)); refine box_event ?hg (N := 3) ?hd (cs := #[.string a1_0, .string a1_1, .slice A1_2 l1_2.length c1_2, .slice A1_3 l1_3.length c1_3]) (t := 31) ?hr ?_; (case hd => rfl); (case hg => rfl); (case hr => first | (go_simp; done) | (go_simp; rfl)); intro gb159 hg w6 hbox hb; have n0_ := Aside0.mk (blk_below (g := gb158) (o := .cells #[.string a0_0, .string a0_1, .slice A0_2 l0_2.length c0_2, .slice A0_3 l0_3.length c0_3] 31 (0, 0)) (by (with_reducible repeat (first | refine blk_drewN ?_ _ | refine blk_drew ?_ | refine blk_alloc ?_ _)); exact BK158.out) hb); have n1_ := Aside0.mk (below_step (by repeat (first | (with_reducible first | exact HB.out | apply below_alloc | apply pw_below_drewN | apply below_drew1 | refine below_set ?_ GE158.out) | exact HB.out)) hb); have n2_ := Aside0.mk (hbox); have n3_ := Aside0.mk ((by rw [hg]; exact (below_size (by repeat (first | (with_reducible first | exact HB.out | apply below_alloc | apply pw_below_drewN | apply below_drew1 | refine below_set ?_ GE158.out) | exact HB.out))) : w.heap.size ≤ gb159)); have n4_ := Aside0.mk ((by rw [hg]; exact (below_size (by repeat (first | (with_reducible first | exact HB.out | apply below_alloc | apply pw_below_drewN | apply below_drew1 | refine below_set ?_ GE158.out) | exact HB.out))) : w.heap.size ≤ gb159)); have n5_ := Aside0.mk ((by rw [hg]; exact Nat.ne_of_lt (blk_lt (g := gb158) (o := .cells #[.string a0_0, .string a0_1, .slice A0_2 l0_2.length c0_2, .slice A0_3 l0_3.length c0_3] 31 (0, 0)) (by (with_reducible repeat (first | refine blk_drewN ?_ _ | refine blk_drew ?_ | refine blk_alloc ?_ _)); exact BK158.out)) : gb158 ≠ gb159)); have n6_ := Aside0.mk ((by rw [hg]; exact Nat.ne_of_gt (blk_lt (g := gb158) (o := .cells #[.string a0_0, .string a0_1, .slice A0_2 l0_2.length c0_2, .slice A0_3 l0_3.length c0_3] 31 (0, 0)) (by (with_reducible repeat (first | refine blk_drewN ?_ _ | refine blk_drew ?_ | refine blk_alloc ?_ _)); exact BK158.out)) : gb159 ≠ gb158)); clear BK158; clear HB; have BK158 := n0_; have HB := n1_; have BK159 := n2_; have GW159 := n3_; have GE159 := n4_; have NB158_159 := n5_; have NB159_158 := n6_; clear n0_ n1_ n2_ n3_ n4_ n5_ n6_; clear hb hbox hg; have hnb7 := NB158_159.out; have hnc7 := NB159_158.out; have hcz8_0 : w6.cell? ⟨gb158, 0, none⟩ = some (.string a0_0) := (blk_cell BK158.out 0).trans rfl; have hcz8_1 : w6.cell? ⟨gb158, 1, none⟩ = some (.string a0_1) := (blk_cell BK158.out 1).trans rfl; have hcz8_2 : w6.cell? ⟨gb158, 2, none⟩ = some (.slice A0_2 l0_2.length c0_2) := (blk_cell BK158.out 2).trans rfl; have hcz8_3 : w6.cell? ⟨gb158, 3, none⟩ = some (.slice A0_3 l0_3.length c0_3) := (blk_cell BK158.out 3).trans rfl; have hfz8_0 := blk_frozen BK158.out 0; have hfz8_1 := blk_frozen BK158.out 1; have hfz8_2 := blk_frozen BK158.out 2; have hfz8_3 := blk_frozen BK158.out 3; have hcz9_0 : w6.cell? ⟨gb159, 0, none⟩ = some (.string a1_0) := (blk_cell BK159.out 0).trans rfl; have hcz9_1 : w6.cell? ⟨gb159, 1, none⟩ = some (.string a1_1) := (blk_cell BK159.out 1).trans rfl; have hcz9_2 : w6.cell? ⟨gb159, 2, none⟩ = some (.slice A1_2 l1_2.length c1_2) := (blk_cell BK159.out 2).trans rfl; have hcz9_3 : w6.cell? ⟨gb159, 3, none⟩ = some (.slice A1_3 l1_3.length c1_3) := (blk_cell BK159.out 3).trans rfl; have hfz9_0 := blk_frozen BK159.out 0; have hfz9_1 := blk_frozen BK159.out 1; have hfz9_2 := blk_frozen BK159.out 2; have hfz9_3 := blk_frozen BK159.out 3) | (go_at_call 44; (with_reducible refine (registrarref04_TextsG.calls _ _ l0_2 _ _ l1_2 t160 _ ?side1 ?side2 ?side3 ?side4 A3.out).mono ?_); (case side1 => repeat (first | exact (Kd.C_below HR0_2.out HB.out) | (with_reducible refine Kd.C_alloc ?_ _) | (with_reducible refine Kd.C_drewN ?_ _) | (with_reducible refine Kd.C_drew ?_))); (case side2 => exact HC0_2.out); (case side3 => repeat (first | exact (Kd.C_below HR1_2.out HB.out) | (with_reducible refine Kd.C_alloc ?_ _) | (with_reducible refine Kd.C_drewN ?_ _) | (with_reducible refine Kd.C_drew ?_))); (case side4 => exact HC1_2.out); rintro e w' ⟨rfl, ⟨nd, rfl⟩⟩; (try first | exact ⟨rfl, _, World.drewN_drewN _ _ _⟩ | exact ⟨rfl, _, Eq.trans (World.drewN_drewN _ _ _) (congrArg (World.drewN _) (Nat.add_assoc _ _ _))⟩))))
  (try simp only [Act.put, List.setIfInBounds_toArray, List.set_cons_zero, List.set_cons_succ])
  go_cut [36] (fun v36 wc => ∃ (kq : Nat) (x36_3 : Bool), v36 = .bool x36_3 ∧ Aside0 (registrarref04_Same.j0 kq x36_3 a0_0 a0_1 l0_2 l0_3 a1_0 a1_1 l1_2 l1_3 = some r) ∧ Aside0 (kq ≤ k) ∧ Aside0 (wc.heap[gb158]? = some (.cells #[.string a0_0, .string a0_1, (.slice A0_2 l0_2.length c0_2), (.slice A0_3 l0_3.length c0_3)] 31 (0, 0))) ∧ Aside0 (wc.heap[gb159]? = some (.cells #[.string a1_0, .string a1_1, (.slice A1_2 l1_2.length c1_2), (.slice A1_3 l1_3.length c1_3)] 31 (0, 0))) ∧ Aside0 (Below w.heap.size w wc))
  case first =>
    have H := HC4.out
    clear HC4
    by_cases c10 : a0_0.toList = a1_0.toList
    · rw [if_pos c10] at H
      have c10b0 : (a0_0.toList == a1_0.toList) = true := beq_iff_eq.mpr c10
      have c10b1 : (a0_0.toList != a1_0.toList) = false := bne_eq_false_iff_eq.mpr c10
      clear c10
      (first | rw [c10b0] | (simp only [i64_w, i32_w]; rw [c10b0]) | skip)
      by_cases c11 : a0_1.toList = a1_1.toList
      · rw [if_pos c11] at H
        have c11b0 : (a0_1.toList == a1_1.toList) = true := beq_iff_eq.mpr c11
        have c11b1 : (a0_1.toList != a1_1.toList) = false := bne_eq_false_iff_eq.mpr c11
        clear c11
        by_cases c12 : t160 = true
        · subst c12
          have H1 : (registrarref04_Same.j0 k ((l0_3.length : Int) != (l1_3.length : Int)) a0_0 a0_1 l0_2 l0_3 a1_0 a1_1 l1_2 l1_3) = some r := by rw [if_pos rfl] at H; exact H
          clear H
          have H := H1
          clear H1
          have H' := Aside0.mk H
          clear H
          have hnb13 := NB158_159.out
          have hnc13 := NB159_158.out
          have hcz14_0 : w6.cell? ⟨gb158, 0, none⟩ = some (.string a0_0) := (blk_cell BK158.out 0).trans rfl
          have hcz14_1 : w6.cell? ⟨gb158, 1, none⟩ = some (.string a0_1) := (blk_cell BK158.out 1).trans rfl
          have hcz14_2 : w6.cell? ⟨gb158, 2, none⟩ = some (.slice A0_2 l0_2.length c0_2) := (blk_cell BK158.out 2).trans rfl
          have hcz14_3 : w6.cell? ⟨gb158, 3, none⟩ = some (.slice A0_3 l0_3.length c0_3) := (blk_cell BK158.out 3).trans rfl
          have hfz14_0 := blk_frozen BK158.out 0
          have hfz14_1 := blk_frozen BK158.out 1
          have hfz14_2 := blk_frozen BK158.out 2
          have hfz14_3 := blk_frozen BK158.out 3
          have hcz15_0 : w6.cell? ⟨gb159, 0, none⟩ = some (.string a1_0) := (blk_cell BK159.out 0).trans rfl
          have hcz15_1 : w6.cell? ⟨gb159, 1, none⟩ = some (.string a1_1) := (blk_cell BK159.out 1).trans rfl
          have hcz15_2 : w6.cell? ⟨gb159, 2, none⟩ = some (.slice A1_2 l1_2.length c1_2) := (blk_cell BK159.out 2).trans rfl
          have hcz15_3 : w6.cell? ⟨gb159, 3, none⟩ = some (.slice A1_3 l1_3.length c1_3) := (blk_cell BK159.out 3).trans rfl
          have hfz15_0 := blk_frozen BK159.out 0
          have hfz15_1 := blk_frozen BK159.out 1
          have hfz15_2 := blk_frozen BK159.out 2
          have hfz15_3 := blk_frozen BK159.out 3
          go_wp2
          repeat (go_quiet (fail); try go_wp2)
          go_meet
          case rel => exact ⟨_, (((l0_3.length : Int) != (l1_3.length : Int))), (by first | rfl | (simp; done) | (simp [*]; done)), H', ⟨by first | omega | exact Nat.le_refl _⟩, ⟨by (with_reducible repeat (first | refine blk_drewN ?_ _ | refine blk_drew ?_ | refine blk_alloc ?_ _)); exact BK158.out⟩, ⟨by (with_reducible repeat (first | refine blk_drewN ?_ _ | refine blk_drew ?_ | refine blk_alloc ?_ _)); exact BK159.out⟩, ⟨by repeat (first | (with_reducible first | exact HB.out | apply below_alloc | apply pw_below_drewN | apply below_drew1 | refine below_set ?_ GE158.out | refine below_set ?_ GE159.out) | exact HB.out)⟩⟩
        · replace c12 := Bool.eq_false_iff.mpr c12
          subst c12
          have H1 : (registrarref04_Same.j0 k true a0_0 a0_1 l0_2 l0_3 a1_0 a1_1 l1_2 l1_3) = some r := by rw [if_neg (show ¬ (false = true) by decide)] at H; exact H
          clear H
          have H := H1
          clear H1
          have H' := Aside0.mk H
          clear H
          have hnb16 := NB158_159.out
          have hnc16 := NB159_158.out
          have hcz17_0 : w6.cell? ⟨gb158, 0, none⟩ = some (.string a0_0) := (blk_cell BK158.out 0).trans rfl
          have hcz17_1 : w6.cell? ⟨gb158, 1, none⟩ = some (.string a0_1) := (blk_cell BK158.out 1).trans rfl
          have hcz17_2 : w6.cell? ⟨gb158, 2, none⟩ = some (.slice A0_2 l0_2.length c0_2) := (blk_cell BK158.out 2).trans rfl
          have hcz17_3 : w6.cell? ⟨gb158, 3, none⟩ = some (.slice A0_3 l0_3.length c0_3) := (blk_cell BK158.out 3).trans rfl
          have hfz17_0 := blk_frozen BK158.out 0
          have hfz17_1 := blk_frozen BK158.out 1
          have hfz17_2 := blk_frozen BK158.out 2
          have hfz17_3 := blk_frozen BK158.out 3
          have hcz18_0 : w6.cell? ⟨gb159, 0, none⟩ = some (.string a1_0) := (blk_cell BK159.out 0).trans rfl
          have hcz18_1 : w6.cell? ⟨gb159, 1, none⟩ = some (.string a1_1) := (blk_cell BK159.out 1).trans rfl
          have hcz18_2 : w6.cell? ⟨gb159, 2, none⟩ = some (.slice A1_2 l1_2.length c1_2) := (blk_cell BK159.out 2).trans rfl
          have hcz18_3 : w6.cell? ⟨gb159, 3, none⟩ = some (.slice A1_3 l1_3.length c1_3) := (blk_cell BK159.out 3).trans rfl
          have hfz18_0 := blk_frozen BK159.out 0
          have hfz18_1 := blk_frozen BK159.out 1
          have hfz18_2 := blk_frozen BK159.out 2
          have hfz18_3 := blk_frozen BK159.out 3
          go_wp2
          repeat (go_quiet (fail); try go_wp2)
          go_meet
          case rel => exact ⟨_, (true), (by first | rfl | (simp; done) | (simp [*]; done)), H', ⟨by first | omega | exact Nat.le_refl _⟩, ⟨by (with_reducible repeat (first | refine blk_drewN ?_ _ | refine blk_drew ?_ | refine blk_alloc ?_ _)); exact BK158.out⟩, ⟨by (with_reducible repeat (first | refine blk_drewN ?_ _ | refine blk_drew ?_ | refine blk_alloc ?_ _)); exact BK159.out⟩, ⟨by repeat (first | (with_reducible first | exact HB.out | apply below_alloc | apply pw_below_drewN | apply below_drew1 | refine below_set ?_ GE158.out | refine below_set ?_ GE159.out) | exact HB.out)⟩⟩
      · rw [if_neg c11] at H
        have c11b0 : (a0_1.toList == a1_1.toList) = false := beq_eq_false_iff_ne.mpr c11
        have c11b1 : (a0_1.toList != a1_1.toList) = true := bne_iff_ne.mpr c11
        have H' := Aside0.mk H
        clear H
        have hnb19 := NB158_159.out
        have hnc19 := NB159_158.out
        have hcz20_0 : w6.cell? ⟨gb158, 0, none⟩ = some (.string a0_0) := (blk_cell BK158.out 0).trans rfl
        have hcz20_1 : w6.cell? ⟨gb158, 1, none⟩ = some (.string a0_1) := (blk_cell BK158.out 1).trans rfl
        have hcz20_2 : w6.cell? ⟨gb158, 2, none⟩ = some (.slice A0_2 l0_2.length c0_2) := (blk_cell BK158.out 2).trans rfl
        have hcz20_3 : w6.cell? ⟨gb158, 3, none⟩ = some (.slice A0_3 l0_3.length c0_3) := (blk_cell BK158.out 3).trans rfl
        have hfz20_0 := blk_frozen BK158.out 0
        have hfz20_1 := blk_frozen BK158.out 1
        have hfz20_2 := blk_frozen BK158.out 2
        have hfz20_3 := blk_frozen BK158.out 3
        have hcz21_0 : w6.cell? ⟨gb159, 0, none⟩ = some (.string a1_0) := (blk_cell BK159.out 0).trans rfl
        have hcz21_1 : w6.cell? ⟨gb159, 1, none⟩ = some (.string a1_1) := (blk_cell BK159.out 1).trans rfl
        have hcz21_2 : w6.cell? ⟨gb159, 2, none⟩ = some (.slice A1_2 l1_2.length c1_2) := (blk_cell BK159.out 2).trans rfl
        have hcz21_3 : w6.cell? ⟨gb159, 3, none⟩ = some (.slice A1_3 l1_3.length c1_3) := (blk_cell BK159.out 3).trans rfl
        have hfz21_0 := blk_frozen BK159.out 0
        have hfz21_1 := blk_frozen BK159.out 1
        have hfz21_2 := blk_frozen BK159.out 2
        have hfz21_3 := blk_frozen BK159.out 3
        go_wp2
        repeat (go_quiet (fail); try go_wp2)
        go_meet
        case rel => exact ⟨_, (true), (by first | rfl | (simp; done) | (simp [*]; done)), H', ⟨by first | omega | exact Nat.le_refl _⟩, ⟨by (with_reducible repeat (first | refine blk_drewN ?_ _ | refine blk_drew ?_ | refine blk_alloc ?_ _)); exact BK158.out⟩, ⟨by (with_reducible repeat (first | refine blk_drewN ?_ _ | refine blk_drew ?_ | refine blk_alloc ?_ _)); exact BK159.out⟩, ⟨by repeat (first | (with_reducible first | exact HB.out | apply below_alloc | apply pw_below_drewN | apply below_drew1 | refine below_set ?_ GE158.out | refine below_set ?_ GE159.out) | exact HB.out)⟩⟩
    · rw [if_neg c10] at H
      have c10b0 : (a0_0.toList == a1_0.toList) = false := beq_eq_false_iff_ne.mpr c10
      have c10b1 : (a0_0.toList != a1_0.toList) = true := bne_iff_ne.mpr c10
      (first | rw [c10b0] | (simp only [i64_w, i32_w]; rw [c10b0]) | skip)
      have H' := Aside0.mk H
      clear H
      have hnb22 := NB158_159.out
      have hnc22 := NB159_158.out
      have hcz23_0 : w6.cell? ⟨gb158, 0, none⟩ = some (.string a0_0) := (blk_cell BK158.out 0).trans rfl
      have hcz23_1 : w6.cell? ⟨gb158, 1, none⟩ = some (.string a0_1) := (blk_cell BK158.out 1).trans rfl
      have hcz23_2 : w6.cell? ⟨gb158, 2, none⟩ = some (.slice A0_2 l0_2.length c0_2) := (blk_cell BK158.out 2).trans rfl
      have hcz23_3 : w6.cell? ⟨gb158, 3, none⟩ = some (.slice A0_3 l0_3.length c0_3) := (blk_cell BK158.out 3).trans rfl
      have hfz23_0 := blk_frozen BK158.out 0
      have hfz23_1 := blk_frozen BK158.out 1
      have hfz23_2 := blk_frozen BK158.out 2
      have hfz23_3 := blk_frozen BK158.out 3
      have hcz24_0 : w6.cell? ⟨gb159, 0, none⟩ = some (.string a1_0) := (blk_cell BK159.out 0).trans rfl
      have hcz24_1 : w6.cell? ⟨gb159, 1, none⟩ = some (.string a1_1) := (blk_cell BK159.out 1).trans rfl
      have hcz24_2 : w6.cell? ⟨gb159, 2, none⟩ = some (.slice A1_2 l1_2.length c1_2) := (blk_cell BK159.out 2).trans rfl
      have hcz24_3 : w6.cell? ⟨gb159, 3, none⟩ = some (.slice A1_3 l1_3.length c1_3) := (blk_cell BK159.out 3).trans rfl
      have hfz24_0 := blk_frozen BK159.out 0
      have hfz24_1 := blk_frozen BK159.out 1
      have hfz24_2 := blk_frozen BK159.out 2
      have hfz24_3 := blk_frozen BK159.out 3
      go_wp2
      repeat (go_quiet (fail); try go_wp2)
      go_meet
      case rel => exact ⟨_, (true), (by first | rfl | (simp; done) | (simp [*]; done)), H', ⟨by first | omega | exact Nat.le_refl _⟩, ⟨by (with_reducible repeat (first | refine blk_drewN ?_ _ | refine blk_drew ?_ | refine blk_alloc ?_ _)); exact BK158.out⟩, ⟨by (with_reducible repeat (first | refine blk_drewN ?_ _ | refine blk_drew ?_ | refine blk_alloc ?_ _)); exact BK159.out⟩, ⟨by repeat (first | (with_reducible first | exact HB.out | apply below_alloc | apply pw_below_drewN | apply below_drew1 | refine below_set ?_ GE158.out | refine below_set ?_ GE159.out) | exact HB.out)⟩⟩
  case rest =>
    clear HC4
    try clear c1
    try clear c2
    try clear p2
    try clear c7
    try clear c10
    try clear c10b0
    try clear c10b1
    try clear c11
    try clear c11b0
    try clear c11b1
    try clear c12
    try clear c13
    try clear c16
    try clear c19
    try clear c20
    try clear c22
    try clear hcz14_0
    try clear hcz14_1
    try clear hcz14_2
    try clear hcz14_3
    try clear hcz15_0
    try clear hcz15_1
    try clear hcz15_2
    try clear hcz15_3
    try clear hcz17_0
    try clear hcz17_1
    try clear hcz17_2
    try clear hcz17_3
    try clear hcz18_0
    try clear hcz18_1
    try clear hcz18_2
    try clear hcz18_3
    try clear hcz20_0
    try clear hcz20_1
    try clear hcz20_2
    try clear hcz20_3
    try clear hcz21_0
    try clear hcz21_1
    try clear hcz21_2
    try clear hcz21_3
    try clear hcz23_0
    try clear hcz23_1
    try clear hcz23_2
    try clear hcz23_3
    try clear hcz24_0
    try clear hcz24_1
    try clear hcz24_2
    try clear hcz24_3
    try clear hcz8_0
    try clear hcz8_1
    try clear hcz8_2
    try clear hcz8_3
    try clear hcz9_0
    try clear hcz9_1
    try clear hcz9_2
    try clear hcz9_3
    try clear hfz14_0
    try clear hfz14_1
    try clear hfz14_2
    try clear hfz14_3
    try clear hfz15_0
    try clear hfz15_1
    try clear hfz15_2
    try clear hfz15_3
    try clear hfz17_0
    try clear hfz17_1
    try clear hfz17_2
    try clear hfz17_3
    try clear hfz18_0
    try clear hfz18_1
    try clear hfz18_2
    try clear hfz18_3
    try clear hfz20_0
    try clear hfz20_1
    try clear hfz20_2
    try clear hfz20_3
    try clear hfz21_0
    try clear hfz21_1
    try clear hfz21_2
    try clear hfz21_3
    try clear hfz23_0
    try clear hfz23_1
    try clear hfz23_2
    try clear hfz23_3
    try clear hfz24_0
    try clear hfz24_1
    try clear hfz24_2
    try clear hfz24_3
    try clear hfz8_0
    try clear hfz8_1
    try clear hfz8_2
    try clear hfz8_3
    try clear hfz9_0
    try clear hfz9_1
    try clear hfz9_2
    try clear hfz9_3
    obtain ⟨kq, x36_3, rfl, HA, HJ3, BK158, BK159, HB⟩ := hcut
    cases kq with
    | zero => exact absurd HA.out (by simp [registrarref04_Same.j0])
    | succ kj3 =>
      have H := HA.out
      clear HA
      simp only [registrarref04_Same.j0] at H
      by_cases c25 : x36_3 = true
      · subst c25
        have H1 : (some false) = some r := by rw [if_pos rfl] at H; exact H
        clear H
        have H := H1
        clear H1
        obtain rfl := Option.some.inj H
        go_wp2
        repeat (go_quiet (fail); try go_wp2)
        go_ret
        exact ⟨by first | rfl | (simp [errW_none, errW_some] <;> rfl) | (simp [*, errW_none, errW_some] <;> rfl), by repeat (first | (with_reducible first | exact HB.out | apply below_alloc | apply pw_below_drewN | apply below_drew1 | refine below_set ?_ GE158.out | refine below_set ?_ GE159.out) | exact HB.out)⟩
      · replace c25 := Bool.eq_false_iff.mpr c25
        subst c25
        have H1 : (registrarref04_Same.l0 kj3 0 a0_0 a0_1 l0_2 l0_3 a1_0 a1_1 l1_2 l1_3) = some r := by rw [if_neg (show ¬ (false = true) by decide)] at H; exact H
        clear H
        have H := H1
        clear H1
        have H' := Aside0.mk H
        clear H
        go_wp2
        repeat (go_quiet (fail); try go_wp2)
        go_loopg [6] kj3 (fun kq v6 w' => ∃ (x6_2 : Int), v6 = .int .i64 x6_2 ∧ Aside0 (registrarref04_Same.l0 kq x6_2 a0_0 a0_1 l0_2 l0_3 a1_0 a1_1 l1_2 l1_3 = some r) ∧ Aside0 (kq ≤ kj3) ∧ Aside0 (w'.heap[gb158]? = some (.cells #[.string a0_0, .string a0_1, (.slice A0_2 l0_2.length c0_2), (.slice A0_3 l0_3.length c0_3)] 31 (0, 0))) ∧ Aside0 (w'.heap[gb159]? = some (.cells #[.string a1_0, .string a1_1, (.slice A1_2 l1_2.length c1_2), (.slice A1_3 l1_3.length c1_3)] 31 (0, 0))) ∧ Aside0 (Below w.heap.size w w'))
        case atStart => exact ⟨(0), (by first | rfl | (simp; done) | (simp [*]; done)), H', ⟨Nat.le_refl _⟩, ⟨by (with_reducible repeat (first | refine blk_drewN ?_ _ | refine blk_drew ?_ | refine blk_alloc ?_ _)); exact BK158.out⟩, ⟨by (with_reducible repeat (first | refine blk_drewN ?_ _ | refine blk_drew ?_ | refine blk_alloc ?_ _)); exact BK159.out⟩, ⟨by repeat (first | (with_reducible first | exact HB.out | apply below_alloc | apply pw_below_drewN | apply below_drew1 | refine below_set ?_ GE158.out | refine below_set ?_ GE159.out) | exact HB.out)⟩⟩
        case round =>
          clear H'
          try clear c1
          try clear c2
          try clear p2
          try clear c7
          try clear c10
          try clear c10b0
          try clear c10b1
          try clear c11
          try clear c11b0
          try clear c11b1
          try clear c12
          try clear c13
          try clear c16
          try clear c19
          try clear c20
          try clear c22
          try clear c25
          try clear hcz14_0
          try clear hcz14_1
          try clear hcz14_2
          try clear hcz14_3
          try clear hcz15_0
          try clear hcz15_1
          try clear hcz15_2
          try clear hcz15_3
          try clear hcz17_0
          try clear hcz17_1
          try clear hcz17_2
          try clear hcz17_3
          try clear hcz18_0
          try clear hcz18_1
          try clear hcz18_2
          try clear hcz18_3
          try clear hcz20_0
          try clear hcz20_1
          try clear hcz20_2
          try clear hcz20_3
          try clear hcz21_0
          try clear hcz21_1
          try clear hcz21_2
          try clear hcz21_3
          try clear hcz23_0
          try clear hcz23_1
          try clear hcz23_2
          try clear hcz23_3
          try clear hcz24_0
          try clear hcz24_1
          try clear hcz24_2
          try clear hcz24_3
          try clear hcz8_0
          try clear hcz8_1
          try clear hcz8_2
          try clear hcz8_3
          try clear hcz9_0
          try clear hcz9_1
          try clear hcz9_2
          try clear hcz9_3
          try clear hfz14_0
          try clear hfz14_1
          try clear hfz14_2
          try clear hfz14_3
          try clear hfz15_0
          try clear hfz15_1
          try clear hfz15_2
          try clear hfz15_3
          try clear hfz17_0
          try clear hfz17_1
          try clear hfz17_2
          try clear hfz17_3
          try clear hfz18_0
          try clear hfz18_1
          try clear hfz18_2
          try clear hfz18_3
          try clear hfz20_0
          try clear hfz20_1
          try clear hfz20_2
          try clear hfz20_3
          try clear hfz21_0
          try clear hfz21_1
          try clear hfz21_2
          try clear hfz21_3
          try clear hfz23_0
          try clear hfz23_1
          try clear hfz23_2
          try clear hfz23_3
          try clear hfz24_0
          try clear hfz24_1
          try clear hfz24_2
          try clear hfz24_3
          try clear hfz8_0
          try clear hfz8_1
          try clear hfz8_2
          try clear hfz8_3
          try clear hfz9_0
          try clear hfz9_1
          try clear hfz9_2
          try clear hfz9_3
          try clear p2
          obtain ⟨x6_2, rfl, HA, HK2, BK158, BK159, HB⟩ := hrel
          cases gk with
          | zero => exact absurd HA.out (by simp [registrarref04_Same.l0])
          | succ k2 =>
            have H := HA.out
            clear HA
            simp only [registrarref04_Same.l0] at H
            by_cases c26 : x6_2 < (l0_3.length : Int)
            · rw [if_pos c26] at H
              have c26b0 : decide (x6_2 < (l0_3.length : Int)) = true := decide_eq_true c26
              clear c26
              by_cases c27 : 0 ≤ x6_2
              · rw [if_pos c27] at H
                have c27b0 : decide (0 ≤ x6_2) = true := decide_eq_true c27
                clear c27
                by_cases c28 : x6_2 < (l1_3.length : Int)
                · rw [if_pos c28] at H
                  have c28b0 : decide (x6_2 < (l1_3.length : Int)) = true := decide_eq_true c28
                  clear c28
                  by_cases c29 : (!((((rd_T90 l0_3 x6_2).f0).toList) == (((rd_T90 l1_3 x6_2).f0).toList)) || (!(((rd_T90 l0_3 x6_2).f1) == ((rd_T90 l1_3 x6_2).f1)))) = true
                  · rw [if_pos c29] at H
                    have c29b0 : (!((((rd_T90 l0_3 x6_2).f0).toList) == (((rd_T90 l1_3 x6_2).f0).toList)) || (!(((rd_T90 l0_3 x6_2).f1) == ((rd_T90 l1_3 x6_2).f1)))) = true := c29
                    clear c29
                    obtain rfl := Option.some.inj H
                    have hnb30 := NB158_159.out
                    have hnc30 := NB159_158.out
                    have hcz31_0 : wr.cell? ⟨gb158, 0, none⟩ = some (.string a0_0) := (blk_cell BK158.out 0).trans rfl
                    have hcz31_1 : wr.cell? ⟨gb158, 1, none⟩ = some (.string a0_1) := (blk_cell BK158.out 1).trans rfl
                    have hcz31_2 : wr.cell? ⟨gb158, 2, none⟩ = some (.slice A0_2 l0_2.length c0_2) := (blk_cell BK158.out 2).trans rfl
                    have hcz31_3 : wr.cell? ⟨gb158, 3, none⟩ = some (.slice A0_3 l0_3.length c0_3) := (blk_cell BK158.out 3).trans rfl
                    have hfz31_0 := blk_frozen BK158.out 0
                    have hfz31_1 := blk_frozen BK158.out 1
                    have hfz31_2 := blk_frozen BK158.out 2
                    have hfz31_3 := blk_frozen BK158.out 3
                    have p161 : 0 ≤ (x6_2 : Int) := of_decide_eq_true (by first | (with_reducible assumption) | assumption)
                    have q161 : x6_2 < (l0_3.length : Int) := of_decide_eq_true (by first | (with_reducible assumption) | assumption)
                    obtain ⟨ad161, e161, hx161_0, hx161_1⟩ := at_T90 HR0_3.out x6_2 p161 q161
                    cases e161
                    replace hx161_0 := (HB.out.cell (World.block_lt_of_cell? w _ hx161_0)).trans hx161_0
                    replace hx161_1 := (HB.out.cell (World.block_lt_of_cell? w _ hx161_1)).trans hx161_1
                    replace p161 := eq_true p161
                    replace q161 := eq_true q161
                    have hcz32_0 : wr.cell? ⟨gb159, 0, none⟩ = some (.string a1_0) := (blk_cell BK159.out 0).trans rfl
                    have hcz32_1 : wr.cell? ⟨gb159, 1, none⟩ = some (.string a1_1) := (blk_cell BK159.out 1).trans rfl
                    have hcz32_2 : wr.cell? ⟨gb159, 2, none⟩ = some (.slice A1_2 l1_2.length c1_2) := (blk_cell BK159.out 2).trans rfl
                    have hcz32_3 : wr.cell? ⟨gb159, 3, none⟩ = some (.slice A1_3 l1_3.length c1_3) := (blk_cell BK159.out 3).trans rfl
                    have hfz32_0 := blk_frozen BK159.out 0
                    have hfz32_1 := blk_frozen BK159.out 1
                    have hfz32_2 := blk_frozen BK159.out 2
                    have hfz32_3 := blk_frozen BK159.out 3
                    have p162 : 0 ≤ (x6_2 : Int) := of_decide_eq_true (by first | (with_reducible assumption) | assumption)
                    have q162 : x6_2 < (l1_3.length : Int) := of_decide_eq_true (by first | (with_reducible assumption) | assumption)
                    obtain ⟨ad162, e162, hx162_0, hx162_1⟩ := at_T90 HR1_3.out x6_2 p162 q162
                    cases e162
                    replace hx162_0 := (HB.out.cell (World.block_lt_of_cell? w _ hx162_0)).trans hx162_0
                    replace hx162_1 := (HB.out.cell (World.block_lt_of_cell? w _ hx162_1)).trans hx162_1
                    replace p162 := eq_true p162
                    replace q162 := eq_true q162
                    go_wp2
                    repeat (go_quiet (fail); try go_wp2)
                    go_ret
                    exact ⟨by first | rfl | (simp [errW_none, errW_some] <;> rfl) | (simp [*, errW_none, errW_some] <;> rfl), by repeat (first | (with_reducible first | exact HB.out | apply below_alloc | apply pw_below_drewN | apply below_drew1 | refine below_set ?_ GE158.out | refine below_set ?_ GE159.out) | exact HB.out)⟩
                  · rw [if_neg c29] at H
                    have c29b0 : (!((((rd_T90 l0_3 x6_2).f0).toList) == (((rd_T90 l1_3 x6_2).f0).toList)) || (!(((rd_T90 l0_3 x6_2).f1) == ((rd_T90 l1_3 x6_2).f1)))) = false := by simpa using c29
                    clear c29
                    have H' := Aside0.mk H
                    clear H
                    have hnb33 := NB158_159.out
                    have hnc33 := NB159_158.out
                    have hcz34_0 : wr.cell? ⟨gb158, 0, none⟩ = some (.string a0_0) := (blk_cell BK158.out 0).trans rfl
                    have hcz34_1 : wr.cell? ⟨gb158, 1, none⟩ = some (.string a0_1) := (blk_cell BK158.out 1).trans rfl
                    have hcz34_2 : wr.cell? ⟨gb158, 2, none⟩ = some (.slice A0_2 l0_2.length c0_2) := (blk_cell BK158.out 2).trans rfl
                    have hcz34_3 : wr.cell? ⟨gb158, 3, none⟩ = some (.slice A0_3 l0_3.length c0_3) := (blk_cell BK158.out 3).trans rfl
                    have hfz34_0 := blk_frozen BK158.out 0
                    have hfz34_1 := blk_frozen BK158.out 1
                    have hfz34_2 := blk_frozen BK158.out 2
                    have hfz34_3 := blk_frozen BK158.out 3
                    have p161 : 0 ≤ (x6_2 : Int) := of_decide_eq_true (by first | (with_reducible assumption) | assumption)
                    have q161 : x6_2 < (l0_3.length : Int) := of_decide_eq_true (by first | (with_reducible assumption) | assumption)
                    obtain ⟨ad161, e161, hx161_0, hx161_1⟩ := at_T90 HR0_3.out x6_2 p161 q161
                    cases e161
                    replace hx161_0 := (HB.out.cell (World.block_lt_of_cell? w _ hx161_0)).trans hx161_0
                    replace hx161_1 := (HB.out.cell (World.block_lt_of_cell? w _ hx161_1)).trans hx161_1
                    replace p161 := eq_true p161
                    replace q161 := eq_true q161
                    have hcz35_0 : wr.cell? ⟨gb159, 0, none⟩ = some (.string a1_0) := (blk_cell BK159.out 0).trans rfl
                    have hcz35_1 : wr.cell? ⟨gb159, 1, none⟩ = some (.string a1_1) := (blk_cell BK159.out 1).trans rfl
                    have hcz35_2 : wr.cell? ⟨gb159, 2, none⟩ = some (.slice A1_2 l1_2.length c1_2) := (blk_cell BK159.out 2).trans rfl
                    have hcz35_3 : wr.cell? ⟨gb159, 3, none⟩ = some (.slice A1_3 l1_3.length c1_3) := (blk_cell BK159.out 3).trans rfl
                    have hfz35_0 := blk_frozen BK159.out 0
                    have hfz35_1 := blk_frozen BK159.out 1
                    have hfz35_2 := blk_frozen BK159.out 2
                    have hfz35_3 := blk_frozen BK159.out 3
                    have p162 : 0 ≤ (x6_2 : Int) := of_decide_eq_true (by first | (with_reducible assumption) | assumption)
                    have q162 : x6_2 < (l1_3.length : Int) := of_decide_eq_true (by first | (with_reducible assumption) | assumption)
                    obtain ⟨ad162, e162, hx162_0, hx162_1⟩ := at_T90 HR1_3.out x6_2 p162 q162
                    cases e162
                    replace hx162_0 := (HB.out.cell (World.block_lt_of_cell? w _ hx162_0)).trans hx162_0
                    replace hx162_1 := (HB.out.cell (World.block_lt_of_cell? w _ hx162_1)).trans hx162_1
                    replace p162 := eq_true p162
                    replace q162 := eq_true q162
                    go_wp2
                    repeat (go_quiet (fail); try go_wp2)
                    go_roundg k2
                    case measure => have := HJ3.out; have := HK2.out; omega
                    case rel => exact ⟨(wrap64 (x6_2 + 1)), (by first | rfl | (simp; done) | (simp [*]; done)), H', ⟨by have := HJ3.out; have := HK2.out; omega⟩, ⟨by (with_reducible repeat (first | refine blk_drewN ?_ _ | refine blk_drew ?_ | refine blk_alloc ?_ _)); exact BK158.out⟩, ⟨by (with_reducible repeat (first | refine blk_drewN ?_ _ | refine blk_drew ?_ | refine blk_alloc ?_ _)); exact BK159.out⟩, ⟨by repeat (first | (with_reducible first | exact HB.out | apply below_alloc | apply pw_below_drewN | apply below_drew1 | refine below_set ?_ GE158.out | refine below_set ?_ GE159.out) | exact HB.out)⟩⟩
                · rw [if_neg c28] at H
                  exact absurd H (by simp)
              · rw [if_neg c27] at H
                exact absurd H (by simp)
            · rw [if_neg c26] at H
              have c26b0 : decide (x6_2 < (l0_3.length : Int)) = false := decide_eq_false c26
              clear c26
              obtain rfl := Option.some.inj H
              have hnb36 := NB158_159.out
              have hnc36 := NB159_158.out
              have hcz37_0 : wr.cell? ⟨gb158, 0, none⟩ = some (.string a0_0) := (blk_cell BK158.out 0).trans rfl
              have hcz37_1 : wr.cell? ⟨gb158, 1, none⟩ = some (.string a0_1) := (blk_cell BK158.out 1).trans rfl
              have hcz37_2 : wr.cell? ⟨gb158, 2, none⟩ = some (.slice A0_2 l0_2.length c0_2) := (blk_cell BK158.out 2).trans rfl
              have hcz37_3 : wr.cell? ⟨gb158, 3, none⟩ = some (.slice A0_3 l0_3.length c0_3) := (blk_cell BK158.out 3).trans rfl
              have hfz37_0 := blk_frozen BK158.out 0
              have hfz37_1 := blk_frozen BK158.out 1
              have hfz37_2 := blk_frozen BK158.out 2
              have hfz37_3 := blk_frozen BK158.out 3
              go_wp2
              repeat (go_quiet (fail); try go_wp2)
              go_ret
              exact ⟨by first | rfl | (simp [errW_none, errW_some] <;> rfl) | (simp [*, errW_none, errW_some] <;> rfl), by repeat (first | (with_reducible first | exact HB.out | apply below_alloc | apply pw_below_drewN | apply below_drew1 | refine below_set ?_ GE158.out | refine below_set ?_ GE159.out) | exact HB.out)⟩

end Go.Proofs.Ytocpcnmnhckcpaa.Prt
namespace Go.Proofs.Ytocpcnmnhckcpaa.Prt
open Go.RowKit Go.Proofs.YtocpcnmnhckcpaaW.PrintWords Go.Proofs.YtocpcnmnhckcpaaW.PrintLast Go.Proofs.YtocpcnmnhckcpaaW.PrintMore Go.Proofs.Ytocpcnmnhckcpaa.Num Go.Proofs.Ytocpcnmnhckcpaa.Nam
set_option linter.unusedVariables false
set_option linter.unusedSimpArgs false

theorem drop_rdF (l : List S90) (i : Nat) (h : i < l.length) : l.drop i = rd_T90 l (i : Int) :: l.drop (i + 1) := by
  rw [List.drop_eq_getElem_cons h]
  unfold rd_T90
  rw [Int.toNat_natCast, List.getD_eq_getElem?_getD, List.getElem?_eq_getElem h]; rfl
theorem rdF_mem {l : List S90} {i : Nat} (h : i < l.length) : rd_T90 l (i : Int) ∈ l := getD_mem' h _
def eqF (x y : S90) : Bool := eqS x.f0 y.f0 && (x.f1 == y.f1)
theorem eqF_iff (x y : S90) : eqF x y = true ↔ x = y := by
  unfold eqF
  rw [Bool.and_eq_true, eqS_iff, beq_iff_eq]
  cases x; cases y; simp
def eqEv (s t : ByteArray) (a : List ByteArray) (f : List S90) (s' t' : ByteArray) (a' : List ByteArray) (f' : List S90) : Bool := eqS s s' && eqS t t' && eqL eqS a a' && eqL eqF f f'
theorem eqEv_iff {s t : ByteArray} {a : List ByteArray} {f : List S90} {s' t' : ByteArray} {a' : List ByteArray} {f' : List S90} : eqEv s t a f s' t' a' f' = true ↔ s = s' ∧ t = t' ∧ a = a' ∧ f = f' := by
  unfold eqEv
  simp only [Bool.and_eq_true, eqS_iff, eqL_iff eqS_iff, eqL_iff eqF_iff, and_assoc]
theorem same_loop (s t s' t' : ByteArray) (a a' : List ByteArray) (f f' : List S90) (hl : f.length ≤ 9223372036854775807) (hff : f.length = f'.length) : ∀ (n i k : Nat), i + n = f.length → n < k → registrarref04_Same.l0 k (i : Int) s t a f s' t' a' f' = some (eqL eqF (f.drop i) (f'.drop i)) := by
  intro n
  induction n with
  | zero =>
    intro i k hi hk
    obtain ⟨k, rfl⟩ : ∃ m, k = m + 1 := ⟨k - 1, by omega⟩
    rw [registrarref04_Same.l0, if_neg (by omega), List.drop_eq_nil_of_le (by omega), List.drop_eq_nil_of_le (by omega)]; rfl
  | succ n ih =>
    intro i k hi hk
    obtain ⟨k, rfl⟩ : ∃ m, k = m + 1 := ⟨k - 1, by omega⟩
    rw [registrarref04_Same.l0, if_pos (by omega), if_pos (by omega), if_pos (by omega), drop_rdF f i (by omega), drop_rdF f' i (by omega), eqL, succW i (by omega), ih (i + 1) k (by omega) (by omega)]
    unfold eqF eqS
    cases ((rd_T90 f (i : Int)).f0.toList == (rd_T90 f' (i : Int)).f0.toList) <;> cases ((rd_T90 f (i : Int)).f1 == (rd_T90 f' (i : Int)).f1) <;> rfl
def registrarref04_SameG.f (a0_0 : ByteArray) (a0_1 : ByteArray) (l0_2 : List ByteArray) (l0_3 : List (S90)) (a1_0 : ByteArray) (a1_1 : ByteArray) (l1_2 : List ByteArray) (l1_3 : List (S90)) : Option (Bool) :=
  if l0_2.length ≤ 9223372036854775807 ∧ l0_3.length ≤ 9223372036854775807 then some (eqEv a0_0 a0_1 l0_2 l0_3 a1_0 a1_1 l1_2 l1_3) else none
theorem registrarref04_SameG.val {a0_0 a0_1 : ByteArray} {l0_2 : List ByteArray} {l0_3 : List (S90)} {a1_0 a1_1 : ByteArray} {l1_2 : List ByteArray} {l1_3 : List (S90)} {r : Bool} (h : registrarref04_SameG.f a0_0 a0_1 l0_2 l0_3 a1_0 a1_1 l1_2 l1_3 = some r) : ∃ k, registrarref04_Same.f k a0_0 a0_1 l0_2 l0_3 a1_0 a1_1 l1_2 l1_3 = some r := by
  unfold registrarref04_SameG.f at h
  by_cases hc : l0_2.length ≤ 9223372036854775807 ∧ l0_3.length ≤ 9223372036854775807
  · rw [if_pos hc] at h
    obtain rfl := Option.some.inj h
    have m1 : registrarref04_TextsG.f l0_2 l1_2 = some (eqL eqS l0_2 l1_2) := if_pos hc.1
    have j0t : ∀ k, registrarref04_Same.j0 (k + 1) true a0_0 a0_1 l0_2 l0_3 a1_0 a1_1 l1_2 l1_3 = some false := fun k => by rw [registrarref04_Same.j0, if_pos rfl]
    refine ⟨l0_3.length + 3, ?_⟩
    unfold registrarref04_Same.f
    rw [m1]
    simp only [Option.bind_some]
    have e1 : eqS a0_0 a1_0 = decide (a0_0.toList = a1_0.toList) := by unfold eqS; rw [Bool.eq_iff_iff, beq_iff_eq, decide_eq_true_iff]
    have e2 : eqS a0_1 a1_1 = decide (a0_1.toList = a1_1.toList) := by unfold eqS; rw [Bool.eq_iff_iff, beq_iff_eq, decide_eq_true_iff]
    unfold eqEv
    rw [e1, e2]
    by_cases g1 : a0_0.toList = a1_0.toList
    · rw [if_pos g1, decide_eq_true g1]
      by_cases g2 : a0_1.toList = a1_1.toList
      · rw [if_pos g2, decide_eq_true g2]
        cases eqL eqS l0_2 l1_2 with
        | false => rw [if_neg (by decide), j0t]; rfl
        | true =>
          rw [if_pos rfl, registrarref04_Same.j0]
          by_cases g3 : l0_3.length = l1_3.length
          · rw [if_neg (by rw [bne_iff_ne]; omega)]
            have := same_loop a0_0 a0_1 a1_0 a1_1 l0_2 l1_2 l0_3 l1_3 hc.2 g3 l0_3.length 0 (l0_3.length + 2) (by omega) (by omega)
            rw [List.drop_zero, List.drop_zero] at this
            exact this
          · rw [if_pos (by rw [bne_iff_ne]; omega), eqL_len _ _ g3]; rfl
      · rw [if_neg g2, decide_eq_false g2, j0t, Bool.and_false]; rfl
    · rw [if_neg g1, decide_eq_false g1, j0t]; rfl
  · rw [if_neg hc] at h; cases h
theorem registrarref04_SameG.calls (a0_0 : ByteArray) (a0_1 : ByteArray) (A0_2 : Option Addr) (c0_2 : Nat) (l0_2 : List ByteArray) (A0_3 : Option Addr) (c0_3 : Nat) (l0_3 : List (S90)) (a1_0 : ByteArray) (a1_1 : ByteArray) (A1_2 : Option Addr) (c1_2 : Nat) (l1_2 : List ByteArray) (A1_3 : Option Addr) (c1_3 : Nat) (l1_3 : List (S90)) (r : Bool) (w : World) (hr0_2 : Kd.C Kd.string w A0_2 l0_2.length l0_2) (hc0_2 : l0_2.length ≤ c0_2) (hr0_3 : Kd.C k90 w A0_3 l0_3.length l0_3) (hc0_3 : l0_3.length ≤ c0_3) (hr1_2 : Kd.C Kd.string w A1_2 l1_2.length l1_2) (hc1_2 : l1_2.length ≤ c1_2) (hr1_3 : Kd.C k90 w A1_3 l1_3.length l1_3) (hc1_3 : l1_3.length ≤ c1_3) (h : registrarref04_SameG.f a0_0 a0_1 l0_2 l0_3 a1_0 a1_1 l1_2 l1_3 = some r) :
    Calls Try.prog 20 #[.agg #[.string a0_0, .string a0_1, .slice A0_2 l0_2.length c0_2, .slice A0_3 l0_3.length c0_3], .agg #[.string a1_0, .string a1_1, .slice A1_2 l1_2.length c1_2, .slice A1_3 l1_3.length c1_3]] w fun e w' => e = .returned (.bool r) ∧ Below w.heap.size w w' := by
  obtain ⟨k, hk⟩ := registrarref04_SameG.val h
  exact registrarref04_Same.calls k a0_0 a0_1 A0_2 c0_2 l0_2 A0_3 c0_3 l0_3 a1_0 a1_1 A1_2 c1_2 l1_2 A1_3 c1_3 l1_3 r w hr0_2 hc0_2 hr0_3 hc0_3 hr1_2 hc1_2 hr1_3 hc1_3 hk
end Go.Proofs.Ytocpcnmnhckcpaa.Prt
namespace Go.Proofs.Ytocpcnmnhckcpaa.Prt
open Go.RowKit Go.Proofs.YtocpcnmnhckcpaaW.PrintWords Go.Proofs.YtocpcnmnhckcpaaW.PrintLast Go.Proofs.YtocpcnmnhckcpaaW.PrintMore
attribute [local go_sem] max2_int min2_int max_two min_two max_three min_three max_four min_four   -- for this text's walks alone
set_option linter.unusedVariables false
set_option linter.unusedSimpArgs false

mutual
def evcode_Put.l0 : Nat → List Int → List ByteArray → Int → Int → ByteArray → ByteArray → List ByteArray → List (S90) → Option (List Int × Int)
  | 0, _, _, _, _, _, _, _, _ => none
  | k + 1, x7, x30, x31, x32, x121000, x121001, x121002, x121003 => if x32 < x31 then (if 0 ≤ x32 then (if x32 < (x30.length : Int) then ((num_PutText.f x7 (rdOf ByteArray.empty x30 x32)).bind fun t132 => (evcode_Put.l0 k t132 x30 x31 (wrap64 (x32 + 1)) x121000 x121001 x121002 x121003)) else (none)) else (none)) else ((num_Put.f x7 (x121003.length : Int)).bind fun t135 => (evcode_Put.l1 k t135 x121003 (x121003.length : Int) 0))
def evcode_Put.l1 : Nat → List Int → List (S90) → Int → Int → Option (List Int × Int)
  | 0, _, _, _, _ => none
  | k + 1, x7, x46, x47, x48 => if x48 < x47 then (if 0 ≤ x48 then (if x48 < (x46.length : Int) then ((num_PutText.f x7 ((rd_T90 x46 x48).f0)).bind fun t140 => ((num_Put.f t140 ((rd_T90 x46 x48).f1)).bind fun t143 => (evcode_Put.l1 k t143 x46 x47 (wrap64 (x48 + 1))))) else (none)) else (none)) else (some (x7, 0))
end
def evcode_Put.f (k : Nat) (l0 : List Int) (a1_0 : ByteArray) (a1_1 : ByteArray) (l1_2 : List ByteArray) (l1_3 : List (S90)) : Option (List Int × Int) := (event_May.f a1_0 a1_1 l1_2 l1_3).bind fun t121 => (if t121 = 0 then ((num_PutText.f l0 a1_0).bind fun t122 => ((num_PutText.f t122 a1_1).bind fun t125 => ((num_Put.f t125 (l1_2.length : Int)).bind fun t128 => (evcode_Put.l0 k t128 l1_2 (l1_2.length : Int) 0 a1_0 a1_1 l1_2 l1_3)))) else (some (([] : List Int), t121)))
def evcode_Put.T4 : Bool × List (List Nat × List Nat) := (true, [([], []), ([], []), ([1], [1]), ([0, 2], [0, 2]), ([], []), ([4], [4]), ([3, 5, 3], [3, 5]), ([6, 6, 0, 1, 2, 3, 4, 5, 6], [6])])
def evcode_Put.B4 : List Nat := [0, 0, 2, 7, 0, 16, 63, 127]
theorem evcode_Put.tab4 : rtab .any (opsOf Try.f26 4) = evcode_Put.T4 := by kernel_rfl
theorem evcode_Put.bits4 : waitsOk evcode_Put.T4.2 evcode_Put.B4 = true := by kernel_rfl
def evcode_Put.T15 : Bool × List (List Nat × List Nat) := (true, [([], []), ([], []), ([1], [1]), ([0, 2], [0, 2]), ([], []), ([4], [4]), ([3, 5, 3], [3, 5]), ([6, 6, 0, 1, 2, 3, 4, 5, 6], [0, 6])])
def evcode_Put.B15 : List Nat := [0, 0, 2, 7, 0, 16, 63, 127]
theorem evcode_Put.tab15 : rtab .any (opsOf Try.f26 15) = evcode_Put.T15 := by kernel_rfl
theorem evcode_Put.bits15 : waitsOk evcode_Put.T15.2 evcode_Put.B15 = true := by kernel_rfl
set_option maxHeartbeats 8000000 in
set_option maxRecDepth 100000 in
theorem evcode_Put.calls (k : Nat) (A0 : Option Addr) (c0 : Nat) (l0 : List Int) (a1_0 : ByteArray) (a1_1 : ByteArray) (A1_2 : Option Addr) (c1_2 : Nat) (l1_2 : List ByteArray) (A1_3 : Option Addr) (c1_3 : Nat) (l1_3 : List (S90)) (r1 : List Int) (r2 : Int) (w : World) (hr0 : Kd.C (Kd.int .u8) w A0 l0.length l0) (hc0 : l0.length ≤ c0) (hr1_2 : Kd.C Kd.string w A1_2 l1_2.length l1_2) (hc1_2 : l1_2.length ≤ c1_2) (hr1_3 : Kd.C k90 w A1_3 l1_3.length l1_3) (hc1_3 : l1_3.length ≤ c1_3) (h : evcode_Put.f k l0 a1_0 a1_1 l1_2 l1_3 = some (r1, r2)) :
    Calls Try.prog 26 #[.slice A0 l0.length c0, .agg #[.string a1_0, .string a1_1, .slice A1_2 l1_2.length c1_2, .slice A1_3 l1_3.length c1_3]] w fun e w' => ∃ v0_ : Value, e = .returned (.tuple #[v0_, .int .i64 r2]) ∧ Kd.R (Kd.int .u8) 5 w' w.heap.size (fun _ => True) v0_ r1 ∧ Below w.heap.size w w' := by
  have hu31 := Try.underlying31
  have hu90 := Try.underlying90
  have HR0 := Aside0.mk hr0
  have HC0 := Aside0.mk hc0
  clear hr0 hc0
  have HR1_2 := Aside0.mk hr1_2
  have HC1_2 := Aside0.mk hc1_2
  clear hr1_2 hc1_2
  have HR1_3 := Aside0.mk hr1_3
  have HC1_3 := Aside0.mk hc1_3
  clear hr1_3 hc1_3
  have HB := Aside0.mk (Below.refl w.heap.size w)
  have H : ((event_May.f a1_0 a1_1 l1_2 l1_3).bind fun t121 => (if t121 = 0 then ((num_PutText.f l0 a1_0).bind fun t122 => ((num_PutText.f t122 a1_1).bind fun t125 => ((num_Put.f t125 (l1_2.length : Int)).bind fun t128 => (evcode_Put.l0 k t128 l1_2 (l1_2.length : Int) 0 a1_0 a1_1 l1_2 l1_3)))) else (some (([] : List Int), t121)))) = some (r1, r2) := h
  clear h
  replace H := Option.bind_eq_some_iff.mp H
  obtain ⟨t121, A30, H⟩ := H
  replace H : (if t121 = 0 then ((num_PutText.f l0 a1_0).bind fun t122 => ((num_PutText.f t122 a1_1).bind fun t125 => ((num_Put.f t125 (l1_2.length : Int)).bind fun t128 => (evcode_Put.l0 k t128 l1_2 (l1_2.length : Int) 0 a1_0 a1_1 l1_2 l1_3)))) else (some (([] : List Int), t121))) = some (r1, r2) := H
  have A3 := Aside0.mk A30
  clear A30
  by_cases c4 : t121 = 0
  · rw [if_pos c4] at H
    have c4b0 : (t121 == 0) = true := beq_iff_eq.mpr c4
    have c4b1 : (t121 != 0) = false := bne_eq_false_iff_eq.mpr c4
    clear c4
    replace H := Option.bind_eq_some_iff.mp H
    obtain ⟨t122, A50, H⟩ := H
    replace H : ((num_PutText.f t122 a1_1).bind fun t125 => ((num_Put.f t125 (l1_2.length : Int)).bind fun t128 => (evcode_Put.l0 k t128 l1_2 (l1_2.length : Int) 0 a1_0 a1_1 l1_2 l1_3))) = some (r1, r2) := H
    have A5 := Aside0.mk A50
    clear A50
    replace H := Option.bind_eq_some_iff.mp H
    obtain ⟨t125, A60, H⟩ := H
    replace H : ((num_Put.f t125 (l1_2.length : Int)).bind fun t128 => (evcode_Put.l0 k t128 l1_2 (l1_2.length : Int) 0 a1_0 a1_1 l1_2 l1_3)) = some (r1, r2) := H
    have A6 := Aside0.mk A60
    clear A60
    replace H := Option.bind_eq_some_iff.mp H
    obtain ⟨t128, A70, H⟩ := H
    replace H : (evcode_Put.l0 k t128 l1_2 (l1_2.length : Int) 0 a1_0 a1_1 l1_2 l1_3) = some (r1, r2) := H
    have A7 := Aside0.mk A70
    clear A70
    have H' := Aside0.mk H
    clear H
    go_enter Try.func26, Try.ntmps26
    try go_wp2_with (first | ((with_reducible refine gate_dst (N := 3) rfl ?_); refine box_event ?hg (N := 3) ?hd (cs := #[.string a1_0, .string a1_1, .slice A1_2 l1_2.length c1_2, .slice A1_3 l1_3.length c1_3]) (t := 31) ?hr ?_; (case hd => rfl); (case hg => rfl); (case hr => first | (go_simp; done) | (go_simp; rfl)); intro gb120 hg w8 hbox hb; have n0_ := Aside0.mk (below_step (by repeat (first | (with_reducible first | exact HB.out | apply below_alloc | apply pw_below_drewN | apply below_drew1) | exact HB.out)) hb); have n1_ := Aside0.mk (hbox); have n2_ := Aside0.mk ((by rw [hg]; exact (below_size (by repeat (first | (with_reducible first | exact HB.out | apply below_alloc | apply pw_below_drewN | apply below_drew1) | exact HB.out))) : w.heap.size ≤ gb120)); have n3_ := Aside0.mk ((by rw [hg]; exact (below_size (by repeat (first | (with_reducible first | exact HB.out | apply below_alloc | apply pw_below_drewN | apply below_drew1) | exact HB.out))) : w.heap.size ≤ gb120)); clear HB; have HB := n0_; have BK120 := n1_; have GW120 := n2_; have GE120 := n3_; clear n0_ n1_ n2_ n3_; clear hb hbox hg; have hcz9_0 : w8.cell? ⟨gb120, 0, none⟩ = some (.string a1_0) := (blk_cell BK120.out 0).trans rfl; have hcz9_1 : w8.cell? ⟨gb120, 1, none⟩ = some (.string a1_1) := (blk_cell BK120.out 1).trans rfl; have hcz9_2 : w8.cell? ⟨gb120, 2, none⟩ = some (.slice A1_2 l1_2.length c1_2) := (blk_cell BK120.out 2).trans rfl; have hcz9_3 : w8.cell? ⟨gb120, 3, none⟩ = some (.slice A1_3 l1_3.length c1_3) := (blk_cell BK120.out 3).trans rfl; have hfz9_0 := blk_frozen BK120.out 0; have hfz9_1 := blk_frozen BK120.out 1; have hfz9_2 := blk_frozen BK120.out 2; have hfz9_3 := blk_frozen BK120.out 3) | ((with_reducible refine gate_callee (f := 45) rfl ?_); refine goesL_ (some 13) rfl rfl Try.func45 (by kernel_rfl) rfl #[.agg #[.string a1_0, .string a1_1, .slice A1_2 l1_2.length c1_2, .slice A1_3 l1_3.length c1_3]] rfl (by (try simp only [List.map_toArray, List.map_cons, List.map_nil]); first | done | rfl | (simp only [List.length_drop, List.length_take]; rfl)) ?_; (with_reducible refine (event_May.calls a1_0 a1_1 _ _ l1_2 _ _ l1_3 t121 _ ?side1 ?side2 ?side3 ?side4 A3.out).mono ?_); (case side1 => repeat (first | exact (Kd.C_below HR1_2.out HB.out) | (with_reducible refine Kd.C_alloc ?_ _) | (with_reducible refine Kd.C_drewN ?_ _) | (with_reducible refine Kd.C_drew ?_))); (case side2 => exact HC1_2.out); (case side3 => repeat (first | exact (Kd.C_below HR1_3.out HB.out) | (with_reducible refine Kd.C_alloc ?_ _) | (with_reducible refine Kd.C_drewN ?_ _) | (with_reducible refine Kd.C_drew ?_))); (case side4 => exact HC1_3.out); rintro e w10 ⟨rfl, hb⟩; refine ⟨_, rfl, ?_⟩; have n0_ := Aside0.mk (blk_below (g := gb120) (o := .cells #[.string a1_0, .string a1_1, .slice A1_2 l1_2.length c1_2, .slice A1_3 l1_3.length c1_3] 31 (0, 0)) (by (with_reducible repeat (first | refine blk_drewN ?_ _ | refine blk_drew ?_ | refine blk_alloc ?_ _)); exact BK120.out) hb); have n1_ := Aside0.mk (below_step (by repeat (first | (with_reducible first | exact HB.out | apply below_alloc | apply pw_below_drewN | apply below_drew1 | refine below_set ?_ GE120.out) | exact HB.out)) hb); clear BK120; clear HB; have BK120 := n0_; have HB := n1_; clear n0_ n1_; (try clear hb); (try clear hb2); (try clear hk); (try clear hi)))
    have n0_ := Aside0.mk (blk_drew BK120.out)
    have n1_ := Aside0.mk (below_drew1 HB.out)
    clear BK120
    clear HB
    have BK120 := n0_
    have HB := n1_
    clear n0_ n1_
    refine start_ (n := 8) (S := fun w' => w'.cell? ⟨gb120, 0, none⟩ = some (.string a1_0) ∧ w'.cell? ⟨gb120, 1, none⟩ = some (.string a1_1) ∧ w'.cell? ⟨gb120, 2, none⟩ = some (.slice A1_2 l1_2.length c1_2) ∧ w'.cell? ⟨gb120, 3, none⟩ = some (.slice A1_3 l1_3.length c1_3)) (ds := []) #[false, false, false, false, false, false, false, false] (by kernel_rfl) rfl rfl ⟨(blk_cell BK120.out 0).trans rfl, (blk_cell BK120.out 1).trans rfl, (blk_cell BK120.out 2).trans rfl, (blk_cell BK120.out 3).trans rfl⟩ (fun hHeld => ?_); refine with_tabW evcode_Put.tab4 evcode_Put.bits4 (fun HT_ HW_ => ?_)
    generalize w10.drew = w11 at BK120 HB hHeld ⊢
    refine pure_ (i := 0) (N := some 17) (v := ?_) (a' := ?_) #[true, false, false, false, false, false, false, false] rfl rfl (any_of HT_.out (by kernel_rfl)) (fun _ _ _ h => h) (Or.inl ⟨by rfl, ?_⟩) ?_ ?_
    rotate_left
    · intro w'
      go_simp
      with_reducible rfl
    rotate_left
    · simp only [Act.put, List.setIfInBounds_toArray, List.set_cons_zero, List.set_cons_succ, i64_w, i32_w]
      rfl
    refine pure_ (i := 1) (N := some 18) (v := ?_) (a' := ?_) #[true, true, false, false, false, false, false, false] rfl rfl (any_of HT_.out (by kernel_rfl)) (fun _ _ _ h => h) (Or.inl ⟨by rfl, ?_⟩) ?_ ?_
    rotate_left
    · intro w'
      go_simp
      with_reducible rfl
    rotate_left
    · simp only [Act.put, List.setIfInBounds_toArray, List.set_cons_zero, List.set_cons_succ, i64_w, i32_w]
      rfl
    refine pure_ (i := 4) (N := some 21) (v := ?_) (a' := ?_) #[true, true, false, false, true, false, false, false] rfl rfl (any_of HT_.out (by kernel_rfl)) (fun _ _ _ h => h) (Or.inl ⟨by rfl, ?_⟩) ?_ ?_
    rotate_left
    · intro w'
      go_simp
      with_reducible rfl
    rotate_left
    · simp only [Act.put, List.setIfInBounds_toArray, List.set_cons_zero, List.set_cons_succ, i64_w, i32_w]
      rfl
    refine take_ (i := 2) (N := some 19) (v := ?_) (a' := ?_) #[true, true, true, false, true, false, false, false] rfl rfl (take_ofW HT_.out HW_.out (by kernel_rfl)) (fun _ _ _ h => h) (Or.inl ⟨by rfl, ?_⟩) hHeld ?_ ?_
    rotate_left
    · rintro w' ⟨s0, s1, s2, s3⟩
      go_simp
      with_reducible rfl
    rotate_left
    · simp only [Act.put, List.setIfInBounds_toArray, List.set_cons_zero, List.set_cons_succ, i64_w, i32_w]
      rfl
    refine take_ (i := 5) (N := some 22) (v := ?_) (a' := ?_) #[true, true, true, false, true, true, false, false] rfl rfl (take_ofW HT_.out HW_.out (by kernel_rfl)) (fun _ _ _ h => h) (Or.inl ⟨by rfl, ?_⟩) hHeld ?_ ?_
    rotate_left
    · rintro w' ⟨s0, s1, s2, s3⟩
      go_simp
      with_reducible rfl
    rotate_left
    · simp only [Act.put, List.setIfInBounds_toArray, List.set_cons_zero, List.set_cons_succ, i64_w, i32_w]
      rfl
    refine one_ (i := 3) (N := some 20) #[true, true, true, true, true, true, false, false] rfl rfl (one_of HT_.out (by kernel_rfl)) (by decide) (fun K hK => ?_)
    refine goes_ Try.func24 (by kernel_rfl) rfl #[.slice A0 l0.length c0, .string a1_0] (by rfl) rfl rfl (by (try simp only [List.map_toArray, List.map_cons, List.map_nil]); first | done | rfl | (simp only [List.length_drop, List.length_take]; rfl)) ?_
    with_reducible refine (num_PutText.calls _ _ l0 a1_0 t122 _ ?side1 ?side2 A5.out).mono ?_
    (case side1 => repeat (first | exact (Kd.C_below HR0.out HB.out) | (with_reducible refine Kd.C_alloc ?_ _) | (with_reducible refine Kd.C_drewN ?_ _) | (with_reducible refine Kd.C_drew ?_)))
    (case side2 => exact HC0.out)
    rintro e w12 ⟨v123, rfl, ho0, hb⟩
    refine ⟨_, rfl, ?_⟩
    have n0_ := Aside0.mk (Kd.R_lower ho0 (below_size (by repeat (first | (with_reducible first | exact HB.out | apply below_alloc | apply pw_below_drewN | apply below_drew1 | refine below_set ?_ GE120.out) | exact HB.out))))
    have n1_ := Aside0.mk (blk_below (g := gb120) (o := .cells #[.string a1_0, .string a1_1, .slice A1_2 l1_2.length c1_2, .slice A1_3 l1_3.length c1_3] 31 (0, 0)) (by (with_reducible repeat (first | refine blk_drewN ?_ _ | refine blk_drew ?_ | refine blk_alloc ?_ _)); exact BK120.out) hb)
    have n2_ := Aside0.mk (below_step (by repeat (first | (with_reducible first | exact HB.out | apply below_alloc | apply pw_below_drewN | apply below_drew1 | refine below_set ?_ GE120.out) | exact HB.out)) hb)
    clear BK120
    clear HB
    have HO124 := n0_
    have BK120 := n1_
    have HB := n2_
    clear n0_ n1_ n2_
    (try clear hb)
    (try clear hb2)
    (try clear hk)
    (try clear hi)
    (try clear ho0)
    obtain ⟨Ao13, co13, eo13⟩ := Kd.R_slice HO124.out
    (first | subst eo13 | (injection eo13 with f1_ f2_ f3_; have f4_ := f1_.symm; have f5_ := f3_.symm; clear f1_ f2_ f3_; subst f4_; subst f5_))
    refine hK.out _ _ ⟨(blk_cell BK120.out 0).trans rfl, (blk_cell BK120.out 1).trans rfl, (blk_cell BK120.out 2).trans rfl, (blk_cell BK120.out 3).trans rfl⟩ (fun hHeld => ?_)
    clear hK K
    refine norm_ (a' := ?_) ?_ ?_
    rotate_left
    · show Act.put _ (some 20) _ = _
      simp only [Act.put, List.setIfInBounds_toArray, List.set_cons_zero, List.set_cons_succ, i64_w, i32_w]
      rfl
    refine one_ (i := 6) (N := some 23) #[true, true, true, true, true, true, true, false] rfl rfl (one_of HT_.out (by kernel_rfl)) (by decide) (fun K hK => ?_)
    refine goes_ Try.func24 (by kernel_rfl) rfl #[.slice Ao13 t122.length co13, .string a1_1] (by rfl) rfl rfl (by (try simp only [List.map_toArray, List.map_cons, List.map_nil]); first | done | rfl | (simp only [List.length_drop, List.length_take]; rfl)) ?_
    with_reducible refine (num_PutText.calls _ _ t122 a1_1 t125 _ ?side1 ?side2 A6.out).mono ?_
    (case side1 => repeat (first | exact (Kd.R_reads' HO124.out).2.2 | (with_reducible refine Kd.C_alloc ?_ _) | (with_reducible refine Kd.C_drewN ?_ _) | (with_reducible refine Kd.C_drew ?_)))
    (case side2 => exact (Kd.R_reads' HO124.out).2.1)
    rintro e w14 ⟨v126, rfl, ho0, hb⟩
    refine ⟨_, rfl, ?_⟩
    have n0_ := Aside0.mk (Kd.R_elder' (by (with_reducible repeat (first | apply Kd.R_alloc | apply Kd.R_drewN | apply Kd.R_drew)); exact HO124.out) (Kd.R_base ho0) hb)
    have n1_ := Aside0.mk (Kd.R_lower (Kd.R_new' ho0 (Kd.R_lt (by (with_reducible repeat (first | apply Kd.R_alloc | apply Kd.R_drewN | apply Kd.R_drew)); exact HO124.out))) (below_size (by repeat (first | (with_reducible first | exact HB.out | apply below_alloc | apply pw_below_drewN | apply below_drew1 | refine below_set ?_ GE120.out) | exact HB.out))))
    have n2_ := Aside0.mk (blk_below (g := gb120) (o := .cells #[.string a1_0, .string a1_1, .slice A1_2 l1_2.length c1_2, .slice A1_3 l1_3.length c1_3] 31 (0, 0)) (by (with_reducible repeat (first | refine blk_drewN ?_ _ | refine blk_drew ?_ | refine blk_alloc ?_ _)); exact BK120.out) hb)
    have n3_ := Aside0.mk (below_step (by repeat (first | (with_reducible first | exact HB.out | apply below_alloc | apply pw_below_drewN | apply below_drew1 | refine below_set ?_ GE120.out) | exact HB.out)) hb)
    clear HO124
    clear BK120
    clear HB
    have HO124 := n0_
    have HO127 := n1_
    have BK120 := n2_
    have HB := n3_
    clear n0_ n1_ n2_ n3_
    (try clear hb)
    (try clear hb2)
    (try clear hk)
    (try clear hi)
    (try clear ho0)
    refine hK.out _ _ ⟨(blk_cell BK120.out 0).trans rfl, (blk_cell BK120.out 1).trans rfl, (blk_cell BK120.out 2).trans rfl, (blk_cell BK120.out 3).trans rfl⟩ (fun hHeld => ?_)
    clear hK K
    refine norm_ (a' := ?_) ?_ ?_
    rotate_left
    · show Act.put _ (some 23) _ = _
      simp only [Act.put, List.setIfInBounds_toArray, List.set_cons_zero, List.set_cons_succ, i64_w, i32_w]
      rfl
    refine pure_ (i := 7) (N := some 7) (v := ?_) (a' := ?_) #[true, true, true, true, true, true, true, true] rfl rfl (any_of HT_.out (by kernel_rfl)) (fun _ _ _ h => h) (Or.inl ⟨by rfl, ?_⟩) ?_ ?_
    rotate_left
    · intro w'
      go_simp
      with_reducible rfl
    rotate_left
    · simp only [Act.put, List.setIfInBounds_toArray, List.set_cons_zero, List.set_cons_succ, i64_w, i32_w]
      rfl
    refine done_ (done_of HT_.out (by kernel_rfl)) ?_
    have hcz15_0 : w14.cell? ⟨gb120, 0, none⟩ = some (.string a1_0) := (blk_cell BK120.out 0).trans rfl
    have hcz15_1 : w14.cell? ⟨gb120, 1, none⟩ = some (.string a1_1) := (blk_cell BK120.out 1).trans rfl
    have hcz15_2 : w14.cell? ⟨gb120, 2, none⟩ = some (.slice A1_2 l1_2.length c1_2) := (blk_cell BK120.out 2).trans rfl
    have hcz15_3 : w14.cell? ⟨gb120, 3, none⟩ = some (.slice A1_3 l1_3.length c1_3) := (blk_cell BK120.out 3).trans rfl
    have hfz15_0 := blk_frozen BK120.out 0
    have hfz15_1 := blk_frozen BK120.out 1
    have hfz15_2 := blk_frozen BK120.out 2
    have hfz15_3 := blk_frozen BK120.out 3
    obtain ⟨Ao16, co16, eo16⟩ := Kd.R_slice HO127.out
    subst eo16
    try go_wp2_with (first | ((with_reducible refine gate_callee (f := 22) rfl ?_); refine goesL_ (some 28) rfl rfl Try.func22 (by kernel_rfl) rfl #[.slice Ao16 t125.length co16, .int .i64 (l1_2.length : Int)] rfl (by (try simp only [List.map_toArray, List.map_cons, List.map_nil]); first | done | rfl | (simp only [List.length_drop, List.length_take]; rfl)) ?_; (with_reducible refine (num_Put.calls _ _ t125 (l1_2.length : Int) t128 _ ?side1 ?side2 A7.out).mono ?_); (case side1 => repeat (first | exact (Kd.R_reads' HO127.out).2.2 | (with_reducible refine Kd.C_alloc ?_ _) | (with_reducible refine Kd.C_drewN ?_ _) | (with_reducible refine Kd.C_drew ?_))); (case side2 => exact (Kd.R_reads' HO127.out).2.1); rintro e w17 ⟨v129, rfl, ho0, hb⟩; refine ⟨_, rfl, ?_⟩; have n0_ := Aside0.mk (Kd.R_elder' (by (with_reducible repeat (first | apply Kd.R_alloc | apply Kd.R_drewN | apply Kd.R_drew)); exact HO124.out) (Kd.R_base ho0) hb); have n1_ := Aside0.mk (Kd.R_elder' (by (with_reducible repeat (first | apply Kd.R_alloc | apply Kd.R_drewN | apply Kd.R_drew)); exact HO127.out) (Kd.R_base ho0) hb); have n2_ := Aside0.mk (Kd.R_lower (Kd.R_new' (Kd.R_new' ho0 (Kd.R_lt (by (with_reducible repeat (first | apply Kd.R_alloc | apply Kd.R_drewN | apply Kd.R_drew)); exact HO124.out))) (Kd.R_lt (by (with_reducible repeat (first | apply Kd.R_alloc | apply Kd.R_drewN | apply Kd.R_drew)); exact HO127.out))) (below_size (by repeat (first | (with_reducible first | exact HB.out | apply below_alloc | apply pw_below_drewN | apply below_drew1 | refine below_set ?_ GE120.out) | exact HB.out)))); have n3_ := Aside0.mk (blk_below (g := gb120) (o := .cells #[.string a1_0, .string a1_1, .slice A1_2 l1_2.length c1_2, .slice A1_3 l1_3.length c1_3] 31 (0, 0)) (by (with_reducible repeat (first | refine blk_drewN ?_ _ | refine blk_drew ?_ | refine blk_alloc ?_ _)); exact BK120.out) hb); have n4_ := Aside0.mk (below_step (by repeat (first | (with_reducible first | exact HB.out | apply below_alloc | apply pw_below_drewN | apply below_drew1 | refine below_set ?_ GE120.out) | exact HB.out)) hb); clear HO124; clear HO127; clear BK120; clear HB; have HO124 := n0_; have HO127 := n1_; have HO130 := n2_; have BK120 := n3_; have HB := n4_; clear n0_ n1_ n2_ n3_ n4_; (try clear hb); (try clear hb2); (try clear hk); (try clear hi); (try clear ho0); have hcz18_0 : w17.cell? ⟨gb120, 0, none⟩ = some (.string a1_0) := (blk_cell BK120.out 0).trans rfl; have hcz18_1 : w17.cell? ⟨gb120, 1, none⟩ = some (.string a1_1) := (blk_cell BK120.out 1).trans rfl; have hcz18_2 : w17.cell? ⟨gb120, 2, none⟩ = some (.slice A1_2 l1_2.length c1_2) := (blk_cell BK120.out 2).trans rfl; have hcz18_3 : w17.cell? ⟨gb120, 3, none⟩ = some (.slice A1_3 l1_3.length c1_3) := (blk_cell BK120.out 3).trans rfl; have hfz18_0 := blk_frozen BK120.out 0; have hfz18_1 := blk_frozen BK120.out 1; have hfz18_2 := blk_frozen BK120.out 2; have hfz18_3 := blk_frozen BK120.out 3))
    go_loopg [7, 32] k (fun kq v7 v32 w' => ∃ (x7_1 : List Int) (x32_1 : Int), v32 = .int .i64 x32_1 ∧ Aside0 (evcode_Put.l0 kq x7_1 l1_2 (l1_2.length : Int) x32_1 a1_0 a1_1 l1_2 l1_3 = some (r1, r2)) ∧ Aside0 (kq ≤ k) ∧ Aside0 (Kd.R (Kd.int .u8) 5 w' w.heap.size (fun _ => True) v7 x7_1) ∧ Aside0 (w'.heap[gb120]? = some (.cells #[.string a1_0, .string a1_1, (.slice A1_2 l1_2.length c1_2), (.slice A1_3 l1_3.length c1_3)] 31 (0, 0))) ∧ Aside0 (Below w.heap.size w w'))
    case atStart => exact ⟨(t128), (0), (by first | rfl | (simp; done) | (simp [*]; done)), H', ⟨Nat.le_refl _⟩, ⟨by (with_reducible repeat (first | apply Kd.R_alloc | apply Kd.R_drewN | apply Kd.R_drew)); exact Kd.R_mono HO130.out (fun _ hk => trivial)⟩, ⟨by (with_reducible repeat (first | refine blk_drewN ?_ _ | refine blk_drew ?_ | refine blk_alloc ?_ _)); exact BK120.out⟩, ⟨by repeat (first | (with_reducible first | exact HB.out | apply below_alloc | apply pw_below_drewN | apply below_drew1 | refine below_set ?_ GE120.out) | exact HB.out)⟩⟩
    case round =>
      clear H'
      try clear c1
      try clear c2
      try clear p2
      try clear c4
      try clear c4b0
      try clear c4b1
      try clear hcz15_0
      try clear hcz15_1
      try clear hcz15_2
      try clear hcz15_3
      try clear hcz18_0
      try clear hcz18_1
      try clear hcz18_2
      try clear hcz18_3
      try clear hcz9_0
      try clear hcz9_1
      try clear hcz9_2
      try clear hcz9_3
      try clear hfz15_0
      try clear hfz15_1
      try clear hfz15_2
      try clear hfz15_3
      try clear hfz18_0
      try clear hfz18_1
      try clear hfz18_2
      try clear hfz18_3
      try clear hfz9_0
      try clear hfz9_1
      try clear hfz9_2
      try clear hfz9_3
      obtain ⟨x7_1, x32_1, rfl, HA, HK1, HO_7, BK120, HB⟩ := hrel
      cases gk with
      | zero => exact absurd HA.out (by simp [evcode_Put.l0])
      | succ k1 =>
        have H := HA.out
        clear HA
        simp only [evcode_Put.l0] at H
        by_cases c19 : x32_1 < (l1_2.length : Int)
        · rw [if_pos c19] at H
          have c19b0 : decide (x32_1 < (l1_2.length : Int)) = true := decide_eq_true c19
          clear c19
          by_cases c20 : 0 ≤ x32_1
          · rw [if_pos c20] at H
            have c20b0 : decide (0 ≤ x32_1) = true := decide_eq_true c20
            clear c20
            by_cases c21 : x32_1 < (l1_2.length : Int)
            · rw [if_pos c21] at H
              have c21b0 : decide (x32_1 < (l1_2.length : Int)) = true := decide_eq_true c21
              clear c21
              replace H := Option.bind_eq_some_iff.mp H
              obtain ⟨t132, A220, H⟩ := H
              replace H : (evcode_Put.l0 k1 t132 l1_2 (l1_2.length : Int) (wrap64 (x32_1 + 1)) a1_0 a1_1 l1_2 l1_3) = some (r1, r2) := H
              have A22 := Aside0.mk A220
              clear A220
              have H' := Aside0.mk H
              clear H
              have p131 : 0 ≤ (x32_1 : Int) := of_decide_eq_true (by first | (with_reducible assumption) | assumption)
              have q131 : x32_1 < (l1_2.length : Int) := of_decide_eq_true (by first | (with_reducible assumption) | assumption)
              obtain ⟨ad131, e131, hx131_0⟩ := Kd.at_string HR1_2.out x32_1 p131 q131
              cases e131
              replace hx131_0 := (HB.out.cell (World.block_lt_of_cell? w _ hx131_0)).trans hx131_0
              replace p131 := eq_true p131
              replace q131 := eq_true q131
              obtain ⟨Ao23, co23, eo23⟩ := Kd.R_slice HO_7.out
              subst eo23
              go_wp2_with (first | ((with_reducible refine gate_callee (f := 24) rfl ?_); refine goesL_ (some 38) rfl rfl Try.func24 (by kernel_rfl) rfl #[.slice Ao23 x7_1.length co23, .string (rdOf ByteArray.empty l1_2 x32_1)] rfl (by (try simp only [List.map_toArray, List.map_cons, List.map_nil]); first | done | rfl | (simp only [List.length_drop, List.length_take]; rfl)) ?_; (with_reducible refine (num_PutText.calls _ _ x7_1 (rdOf ByteArray.empty l1_2 x32_1) t132 _ ?side1 ?side2 A22.out).mono ?_); (case side1 => repeat (first | exact (Kd.R_reads' HO_7.out).2.2 | (with_reducible refine Kd.C_alloc ?_ _) | (with_reducible refine Kd.C_drewN ?_ _) | (with_reducible refine Kd.C_drew ?_))); (case side2 => exact (Kd.R_reads' HO_7.out).2.1); rintro e w24 ⟨v133, rfl, ho0, hb⟩; refine ⟨_, rfl, ?_⟩; have n0_ := Aside0.mk (Kd.R_elder' (by (with_reducible repeat (first | apply Kd.R_alloc | apply Kd.R_drewN | apply Kd.R_drew)); exact HO_7.out) (Kd.R_base ho0) hb); have n1_ := Aside0.mk (Kd.R_lower (Kd.R_new' ho0 (Kd.R_lt (by (with_reducible repeat (first | apply Kd.R_alloc | apply Kd.R_drewN | apply Kd.R_drew)); exact HO_7.out))) (below_size (by repeat (first | (with_reducible first | exact HB.out | apply below_alloc | apply pw_below_drewN | apply below_drew1 | refine below_set ?_ GE120.out) | exact HB.out)))); have n2_ := Aside0.mk (blk_below (g := gb120) (o := .cells #[.string a1_0, .string a1_1, .slice (some ad131) l1_2.length c1_2, .slice A1_3 l1_3.length c1_3] 31 (0, 0)) (by (with_reducible repeat (first | refine blk_drewN ?_ _ | refine blk_drew ?_ | refine blk_alloc ?_ _)); exact BK120.out) hb); have n3_ := Aside0.mk (below_step (by repeat (first | (with_reducible first | exact HB.out | apply below_alloc | apply pw_below_drewN | apply below_drew1 | refine below_set ?_ GE120.out) | exact HB.out)) hb); clear HO_7; clear BK120; clear HB; have HO_7 := n0_; have HO134 := n1_; have BK120 := n2_; have HB := n3_; clear n0_ n1_ n2_ n3_; (try clear hb); (try clear hb2); (try clear hk); (try clear hi); (try clear ho0)))
              go_roundg k1
              case measure => have := HK1.out; omega
              case rel => exact ⟨(t132), (wrap64 (x32_1 + 1)), (by first | rfl | (simp; done) | (simp [*]; done)), H', ⟨by have := HK1.out; omega⟩, ⟨by (with_reducible repeat (first | apply Kd.R_alloc | apply Kd.R_drewN | apply Kd.R_drew)); exact Kd.R_mono HO134.out (fun _ hk => trivial)⟩, ⟨by (with_reducible repeat (first | refine blk_drewN ?_ _ | refine blk_drew ?_ | refine blk_alloc ?_ _)); exact BK120.out⟩, ⟨by repeat (first | (with_reducible first | exact HB.out | apply below_alloc | apply pw_below_drewN | apply below_drew1 | refine below_set ?_ GE120.out) | exact HB.out)⟩⟩
            · rw [if_neg c21] at H
              exact absurd H (by simp)
          · rw [if_neg c20] at H
            exact absurd H (by simp)
        · rw [if_neg c19] at H
          have c19b0 : decide (x32_1 < (l1_2.length : Int)) = false := decide_eq_false c19
          clear c19
          replace H := Option.bind_eq_some_iff.mp H
          obtain ⟨t135, A250, H⟩ := H
          replace H : (evcode_Put.l1 k1 t135 l1_3 (l1_3.length : Int) 0) = some (r1, r2) := H
          have A25 := Aside0.mk A250
          clear A250
          have H' := Aside0.mk H
          clear H
          have hcz26_0 : wr.cell? ⟨gb120, 0, none⟩ = some (.string a1_0) := (blk_cell BK120.out 0).trans rfl
          have hcz26_1 : wr.cell? ⟨gb120, 1, none⟩ = some (.string a1_1) := (blk_cell BK120.out 1).trans rfl
          have hcz26_2 : wr.cell? ⟨gb120, 2, none⟩ = some (.slice A1_2 l1_2.length c1_2) := (blk_cell BK120.out 2).trans rfl
          have hcz26_3 : wr.cell? ⟨gb120, 3, none⟩ = some (.slice A1_3 l1_3.length c1_3) := (blk_cell BK120.out 3).trans rfl
          have hfz26_0 := blk_frozen BK120.out 0
          have hfz26_1 := blk_frozen BK120.out 1
          have hfz26_2 := blk_frozen BK120.out 2
          have hfz26_3 := blk_frozen BK120.out 3
          obtain ⟨Ao27, co27, eo27⟩ := Kd.R_slice HO_7.out
          subst eo27
          go_wp2_with (first | ((with_reducible refine gate_callee (f := 22) rfl ?_); refine goesL_ (some 44) rfl rfl Try.func22 (by kernel_rfl) rfl #[.slice Ao27 x7_1.length co27, .int .i64 (l1_3.length : Int)] rfl (by (try simp only [List.map_toArray, List.map_cons, List.map_nil]); first | done | rfl | (simp only [List.length_drop, List.length_take]; rfl)) ?_; (with_reducible refine (num_Put.calls _ _ x7_1 (l1_3.length : Int) t135 _ ?side1 ?side2 A25.out).mono ?_); (case side1 => repeat (first | exact (Kd.R_reads' HO_7.out).2.2 | (with_reducible refine Kd.C_alloc ?_ _) | (with_reducible refine Kd.C_drewN ?_ _) | (with_reducible refine Kd.C_drew ?_))); (case side2 => exact (Kd.R_reads' HO_7.out).2.1); rintro e w28 ⟨v136, rfl, ho0, hb⟩; refine ⟨_, rfl, ?_⟩; have n0_ := Aside0.mk (Kd.R_elder' (by (with_reducible repeat (first | apply Kd.R_alloc | apply Kd.R_drewN | apply Kd.R_drew)); exact HO_7.out) (Kd.R_base ho0) hb); have n1_ := Aside0.mk (Kd.R_lower (Kd.R_new' ho0 (Kd.R_lt (by (with_reducible repeat (first | apply Kd.R_alloc | apply Kd.R_drewN | apply Kd.R_drew)); exact HO_7.out))) (below_size (by repeat (first | (with_reducible first | exact HB.out | apply below_alloc | apply pw_below_drewN | apply below_drew1 | refine below_set ?_ GE120.out) | exact HB.out)))); have n2_ := Aside0.mk (blk_below (g := gb120) (o := .cells #[.string a1_0, .string a1_1, .slice A1_2 l1_2.length c1_2, .slice A1_3 l1_3.length c1_3] 31 (0, 0)) (by (with_reducible repeat (first | refine blk_drewN ?_ _ | refine blk_drew ?_ | refine blk_alloc ?_ _)); exact BK120.out) hb); have n3_ := Aside0.mk (below_step (by repeat (first | (with_reducible first | exact HB.out | apply below_alloc | apply pw_below_drewN | apply below_drew1 | refine below_set ?_ GE120.out) | exact HB.out)) hb); clear HO_7; clear BK120; clear HB; have HO_7 := n0_; have HO137 := n1_; have BK120 := n2_; have HB := n3_; clear n0_ n1_ n2_ n3_; (try clear hb); (try clear hb2); (try clear hk); (try clear hi); (try clear ho0); have hcz29_0 : w28.cell? ⟨gb120, 0, none⟩ = some (.string a1_0) := (blk_cell BK120.out 0).trans rfl; have hcz29_1 : w28.cell? ⟨gb120, 1, none⟩ = some (.string a1_1) := (blk_cell BK120.out 1).trans rfl; have hcz29_2 : w28.cell? ⟨gb120, 2, none⟩ = some (.slice A1_2 l1_2.length c1_2) := (blk_cell BK120.out 2).trans rfl; have hcz29_3 : w28.cell? ⟨gb120, 3, none⟩ = some (.slice A1_3 l1_3.length c1_3) := (blk_cell BK120.out 3).trans rfl; have hfz29_0 := blk_frozen BK120.out 0; have hfz29_1 := blk_frozen BK120.out 1; have hfz29_2 := blk_frozen BK120.out 2; have hfz29_3 := blk_frozen BK120.out 3))
          go_loopg [7, 48] k1 (fun kq v7 v48 w' => ∃ (x7_2 : List Int) (x48_2 : Int), v48 = .int .i64 x48_2 ∧ Aside0 (evcode_Put.l1 kq x7_2 l1_3 (l1_3.length : Int) x48_2 = some (r1, r2)) ∧ Aside0 (kq ≤ k1) ∧ Aside0 (Kd.R (Kd.int .u8) 5 w' w.heap.size (fun _ => True) v7 x7_2) ∧ Aside0 (w'.heap[gb120]? = some (.cells #[.string a1_0, .string a1_1, (.slice A1_2 l1_2.length c1_2), (.slice A1_3 l1_3.length c1_3)] 31 (0, 0))) ∧ Aside0 (Below w.heap.size w w'))
          case atStart => exact ⟨(t135), (0), (by first | rfl | (simp; done) | (simp [*]; done)), H', ⟨Nat.le_refl _⟩, ⟨by (with_reducible repeat (first | apply Kd.R_alloc | apply Kd.R_drewN | apply Kd.R_drew)); exact Kd.R_mono HO137.out (fun _ hk => trivial)⟩, ⟨by (with_reducible repeat (first | refine blk_drewN ?_ _ | refine blk_drew ?_ | refine blk_alloc ?_ _)); exact BK120.out⟩, ⟨by repeat (first | (with_reducible first | exact HB.out | apply below_alloc | apply pw_below_drewN | apply below_drew1 | refine below_set ?_ GE120.out) | exact HB.out)⟩⟩
          case round =>
            clear H'
            try clear c1
            try clear p1
            try clear q1
            try clear hx1
            try clear c2
            try clear p2
            try clear c4
            try clear c4b0
            try clear c4b1
            try clear p6
            try clear p13
            try clear q13
            try clear hx13
            try clear c19
            try clear c19b0
            try clear c20
            try clear c20b0
            try clear c21
            try clear c21b0
            try clear c22
            try clear c24
            try clear c26
            try clear hcz15_0
            try clear hcz15_1
            try clear hcz15_2
            try clear hcz15_3
            try clear hcz18_0
            try clear hcz18_1
            try clear hcz18_2
            try clear hcz18_3
            try clear hcz26_0
            try clear hcz26_1
            try clear hcz26_2
            try clear hcz26_3
            try clear hcz29_0
            try clear hcz29_1
            try clear hcz29_2
            try clear hcz29_3
            try clear hcz9_0
            try clear hcz9_1
            try clear hcz9_2
            try clear hcz9_3
            try clear hfz15_0
            try clear hfz15_1
            try clear hfz15_2
            try clear hfz15_3
            try clear hfz18_0
            try clear hfz18_1
            try clear hfz18_2
            try clear hfz18_3
            try clear hfz26_0
            try clear hfz26_1
            try clear hfz26_2
            try clear hfz26_3
            try clear hfz29_0
            try clear hfz29_1
            try clear hfz29_2
            try clear hfz29_3
            try clear hfz9_0
            try clear hfz9_1
            try clear hfz9_2
            try clear hfz9_3
            try clear hx131_0
            try clear p131
            try clear p2
            try clear q131
            obtain ⟨x7_2, x48_2, rfl, HA, HK2, HO_7, BK120, HB⟩ := hrel
            cases gk with
            | zero => exact absurd HA.out (by simp [evcode_Put.l1])
            | succ k2 =>
              have H := HA.out
              clear HA
              simp only [evcode_Put.l1] at H
              by_cases c30 : x48_2 < (l1_3.length : Int)
              · rw [if_pos c30] at H
                have c30b0 : decide (x48_2 < (l1_3.length : Int)) = true := decide_eq_true c30
                clear c30
                by_cases c31 : 0 ≤ x48_2
                · rw [if_pos c31] at H
                  have c31b0 : decide (0 ≤ x48_2) = true := decide_eq_true c31
                  clear c31
                  by_cases c32 : x48_2 < (l1_3.length : Int)
                  · rw [if_pos c32] at H
                    have c32b0 : decide (x48_2 < (l1_3.length : Int)) = true := decide_eq_true c32
                    clear c32
                    replace H := Option.bind_eq_some_iff.mp H
                    obtain ⟨t140, A330, H⟩ := H
                    replace H : ((num_Put.f t140 ((rd_T90 l1_3 x48_2).f1)).bind fun t143 => (evcode_Put.l1 k2 t143 l1_3 (l1_3.length : Int) (wrap64 (x48_2 + 1)))) = some (r1, r2) := H
                    have A33 := Aside0.mk A330
                    clear A330
                    replace H := Option.bind_eq_some_iff.mp H
                    obtain ⟨t143, A340, H⟩ := H
                    replace H : (evcode_Put.l1 k2 t143 l1_3 (l1_3.length : Int) (wrap64 (x48_2 + 1))) = some (r1, r2) := H
                    have A34 := Aside0.mk A340
                    clear A340
                    have H' := Aside0.mk H
                    clear H
                    have p138 : 0 ≤ (x48_2 : Int) := of_decide_eq_true (by first | (with_reducible assumption) | assumption)
                    have q138 : x48_2 < (l1_3.length : Int) := of_decide_eq_true (by first | (with_reducible assumption) | assumption)
                    obtain ⟨ad138, e138, hx138_0, hx138_1⟩ := at_T90 HR1_3.out x48_2 p138 q138
                    cases e138
                    replace hx138_0 := (HB.out.cell (World.block_lt_of_cell? w _ hx138_0)).trans hx138_0
                    replace hx138_1 := (HB.out.cell (World.block_lt_of_cell? w _ hx138_1)).trans hx138_1
                    replace p138 := eq_true p138
                    replace q138 := eq_true q138
                    try go_wp2_with (first | ((with_reducible refine gate_dst (N := 11) rfl ?_); refine box_event ?hg (N := 11) ?hd (cs := #[.string (⟨#[]⟩ : ByteArray), .int .i64 0]) (t := 90) ?hr ?_; (case hd => rfl); (case hg => rfl); (case hr => first | (go_simp; done) | (go_simp; rfl)); intro gb139 hg w35 hbox hb; have n0_ := Aside0.mk (Kd.R_below (by (with_reducible repeat (first | apply Kd.R_alloc | apply Kd.R_drewN | apply Kd.R_drew)); exact HO_7.out) hb); have n1_ := Aside0.mk (blk_below (g := gb120) (o := .cells #[.string a1_0, .string a1_1, .slice A1_2 l1_2.length c1_2, .slice (some ad138) l1_3.length c1_3] 31 (0, 0)) (by (with_reducible repeat (first | refine blk_drewN ?_ _ | refine blk_drew ?_ | refine blk_alloc ?_ _)); exact BK120.out) hb); have n2_ := Aside0.mk (below_step (by repeat (first | (with_reducible first | exact HB.out | apply below_alloc | apply pw_below_drewN | apply below_drew1 | refine below_set ?_ GE120.out) | exact HB.out)) hb); have n3_ := Aside0.mk (hbox); have n4_ := Aside0.mk ((by rw [hg]; exact (below_size (by repeat (first | (with_reducible first | exact HB.out | apply below_alloc | apply pw_below_drewN | apply below_drew1 | refine below_set ?_ GE120.out) | exact HB.out))) : w.heap.size ≤ gb139)); have n5_ := Aside0.mk ((by rw [hg]; exact (below_size (by repeat (first | (with_reducible first | exact HB.out | apply below_alloc | apply pw_below_drewN | apply below_drew1 | refine below_set ?_ GE120.out) | exact HB.out))) : w.heap.size ≤ gb139)); have n6_ := Aside0.mk ((by rw [hg]; exact Nat.ne_of_lt (blk_lt (g := gb120) (o := .cells #[.string a1_0, .string a1_1, .slice A1_2 l1_2.length c1_2, .slice (some ad138) l1_3.length c1_3] 31 (0, 0)) (by (with_reducible repeat (first | refine blk_drewN ?_ _ | refine blk_drew ?_ | refine blk_alloc ?_ _)); exact BK120.out)) : gb120 ≠ gb139)); have n7_ := Aside0.mk ((by rw [hg]; exact Nat.ne_of_gt (blk_lt (g := gb120) (o := .cells #[.string a1_0, .string a1_1, .slice A1_2 l1_2.length c1_2, .slice (some ad138) l1_3.length c1_3] 31 (0, 0)) (by (with_reducible repeat (first | refine blk_drewN ?_ _ | refine blk_drew ?_ | refine blk_alloc ?_ _)); exact BK120.out)) : gb139 ≠ gb120)); clear HO_7; clear BK120; clear HB; have HO_7 := n0_; have BK120 := n1_; have HB := n2_; have BK139 := n3_; have GW139 := n4_; have GE139 := n5_; have NB120_139 := n6_; have NB139_120 := n7_; clear n0_ n1_ n2_ n3_ n4_ n5_ n6_ n7_; clear hb hbox hg; have hnb36 := NB139_120.out; have hnc36 := NB120_139.out; have hcz37_0 : w35.cell? ⟨gb139, 0, none⟩ = some (.string (⟨#[]⟩ : ByteArray)) := (blk_cell BK139.out 0).trans rfl; have hcz37_1 : w35.cell? ⟨gb139, 1, none⟩ = some (.int .i64 0) := (blk_cell BK139.out 1).trans rfl; have hfz37_0 := blk_frozen BK139.out 0; have hfz37_1 := blk_frozen BK139.out 1))
                    have n0_ : Aside0 (Kd.R (Kd.int .u8) 5 ((w35.setCell ⟨gb139, 0, none⟩ (.string ((rd_T90 l1_3 x48_2).f0))).setCell ⟨gb139, 1, none⟩ (.int .i64 ((rd_T90 l1_3 x48_2).f1))) w.heap.size (fun _ => True) u7 x7_2) := ⟨by (with_reducible repeat (first | apply Kd.R_alloc | apply Kd.R_drewN | apply Kd.R_drew)); exact Kd.R_mono (Kd.R_far (p := ⟨gb139, 1, none⟩) (Kd.R_far (p := ⟨gb139, 0, none⟩) (Kd.R_types HO_7.out BK139.out (by decide)) (fun _ hk => hk.2) (.string ((rd_T90 l1_3 x48_2).f0))) (fun _ hk => hk.2) (.int .i64 ((rd_T90 l1_3 x48_2).f1))) (fun _ hk => trivial)⟩
                    have n1_ : Aside0 (((w35.setCell ⟨gb139, 0, none⟩ (.string ((rd_T90 l1_3 x48_2).f0))).setCell ⟨gb139, 1, none⟩ (.int .i64 ((rd_T90 l1_3 x48_2).f1))).heap[gb120]? = some (.cells #[.string a1_0, .string a1_1, .slice A1_2 l1_2.length c1_2, .slice (some ad138) l1_3.length c1_3] 31 (0, 0))) := ⟨by (with_reducible repeat (first | refine blk_drewN ?_ _ | refine blk_drew ?_ | refine blk_alloc ?_ _)); refine blk_far ?_ NB120_139.out _; (with_reducible repeat (first | refine blk_drewN ?_ _ | refine blk_drew ?_ | refine blk_alloc ?_ _)); refine blk_far ?_ NB120_139.out _; (with_reducible repeat (first | refine blk_drewN ?_ _ | refine blk_drew ?_ | refine blk_alloc ?_ _)); exact BK120.out⟩
                    have n2_ : Aside0 (((w35.setCell ⟨gb139, 0, none⟩ (.string ((rd_T90 l1_3 x48_2).f0))).setCell ⟨gb139, 1, none⟩ (.int .i64 ((rd_T90 l1_3 x48_2).f1))).heap[gb139]? = some (.cells #[.string ((rd_T90 l1_3 x48_2).f0), .int .i64 ((rd_T90 l1_3 x48_2).f1)] 90 (0, 0))) := ⟨by (with_reducible repeat (first | refine blk_drewN ?_ _ | refine blk_drew ?_ | refine blk_alloc ?_ _)); refine blk_put (cs := #[.string ((rd_T90 l1_3 x48_2).f0), .int .i64 0]) ?_ 1 _ rfl; (with_reducible repeat (first | refine blk_drewN ?_ _ | refine blk_drew ?_ | refine blk_alloc ?_ _)); refine blk_put (cs := #[.string (⟨#[]⟩ : ByteArray), .int .i64 0]) ?_ 0 _ rfl; (with_reducible repeat (first | refine blk_drewN ?_ _ | refine blk_drew ?_ | refine blk_alloc ?_ _)); exact BK139.out⟩
                    have n3_ : Aside0 (Below w.heap.size w ((w35.setCell ⟨gb139, 0, none⟩ (.string ((rd_T90 l1_3 x48_2).f0))).setCell ⟨gb139, 1, none⟩ (.int .i64 ((rd_T90 l1_3 x48_2).f1)))) := ⟨by repeat (first | (with_reducible first | exact HB.out | apply below_alloc | apply pw_below_drewN | apply below_drew1 | refine below_set ?_ GE120.out | refine below_set ?_ GE139.out) | exact HB.out)⟩
                    (try clear HO_7)
                    (try clear BK120)
                    (try clear BK139)
                    (try clear HB)
                    generalize ((w35.setCell ⟨gb139, 0, none⟩ (.string ((rd_T90 l1_3 x48_2).f0))).setCell ⟨gb139, 1, none⟩ (.int .i64 ((rd_T90 l1_3 x48_2).f1))) = w38 at n0_ n1_ n2_ n3_ ⊢
                    have HO_7 := n0_
                    have BK120 := n1_
                    have BK139 := n2_
                    have HB := n3_
                    clear n0_ n1_ n2_ n3_
                    have n0_ := Aside0.mk (Kd.R_drew HO_7.out)
                    have n1_ := Aside0.mk (blk_drew BK120.out)
                    have n2_ := Aside0.mk (blk_drew BK139.out)
                    have n3_ := Aside0.mk (below_drew1 HB.out)
                    clear HO_7
                    clear BK120
                    clear BK139
                    clear HB
                    have HO_7 := n0_
                    have BK120 := n1_
                    have BK139 := n2_
                    have HB := n3_
                    clear n0_ n1_ n2_ n3_
                    obtain ⟨Ao40, co40, eo40⟩ := Kd.R_slice HO_7.out
                    (first | subst eo40 | (injection eo40 with f1_ f2_ f3_; have f4_ := f1_.symm; have f5_ := f3_.symm; clear f1_ f2_ f3_; subst f4_; subst f5_))
                    refine start_ (n := 8) (S := fun w' => w'.cell? ⟨gb139, 0, none⟩ = some (.string ((rd_T90 l1_3 x48_2).f0)) ∧ w'.cell? ⟨gb139, 1, none⟩ = some (.int .i64 ((rd_T90 l1_3 x48_2).f1))) (ds := []) #[false, false, false, false, false, false, false, false] (by kernel_rfl) rfl rfl ⟨(blk_cell BK139.out 0).trans rfl, (blk_cell BK139.out 1).trans rfl⟩ (fun hHeld => ?_); refine with_tabW evcode_Put.tab15 evcode_Put.bits15 (fun HT_ HW_ => ?_)
                    generalize w38.drew = w39 at HO_7 BK120 BK139 HB hHeld ⊢
                    refine pure_ (i := 0) (N := some 52) (v := ?_) (a' := ?_) #[true, false, false, false, false, false, false, false] rfl rfl (any_of HT_.out (by kernel_rfl)) (fun _ _ _ h => h) (Or.inl ⟨by rfl, ?_⟩) ?_ ?_
                    rotate_left
                    · intro w'
                      go_simp
                      with_reducible rfl
                    rotate_left
                    · simp only [Act.put, List.setIfInBounds_toArray, List.set_cons_zero, List.set_cons_succ, i64_w, i32_w]
                      rfl
                    refine pure_ (i := 1) (N := some 53) (v := ?_) (a' := ?_) #[true, true, false, false, false, false, false, false] rfl rfl (any_of HT_.out (by kernel_rfl)) (fun _ _ _ h => h) (Or.inl ⟨by rfl, ?_⟩) ?_ ?_
                    rotate_left
                    · intro w'
                      go_simp
                      with_reducible rfl
                    rotate_left
                    · simp only [Act.put, List.setIfInBounds_toArray, List.set_cons_zero, List.set_cons_succ, i64_w, i32_w]
                      rfl
                    refine pure_ (i := 4) (N := some 56) (v := ?_) (a' := ?_) #[true, true, false, false, true, false, false, false] rfl rfl (any_of HT_.out (by kernel_rfl)) (fun _ _ _ h => h) (Or.inl ⟨by rfl, ?_⟩) ?_ ?_
                    rotate_left
                    · intro w'
                      go_simp
                      with_reducible rfl
                    rotate_left
                    · simp only [Act.put, List.setIfInBounds_toArray, List.set_cons_zero, List.set_cons_succ, i64_w, i32_w]
                      rfl
                    refine take_ (i := 2) (N := some 54) (v := ?_) (a' := ?_) #[true, true, true, false, true, false, false, false] rfl rfl (take_ofW HT_.out HW_.out (by kernel_rfl)) (fun _ _ _ h => h) (Or.inl ⟨by rfl, ?_⟩) hHeld ?_ ?_
                    rotate_left
                    · rintro w' ⟨s0, s1⟩
                      go_simp
                      with_reducible rfl
                    rotate_left
                    · simp only [Act.put, List.setIfInBounds_toArray, List.set_cons_zero, List.set_cons_succ, i64_w, i32_w]
                      rfl
                    refine take_ (i := 5) (N := some 57) (v := ?_) (a' := ?_) #[true, true, true, false, true, true, false, false] rfl rfl (take_ofW HT_.out HW_.out (by kernel_rfl)) (fun _ _ _ h => h) (Or.inl ⟨by rfl, ?_⟩) hHeld ?_ ?_
                    rotate_left
                    · rintro w' ⟨s0, s1⟩
                      go_simp
                      with_reducible rfl
                    rotate_left
                    · simp only [Act.put, List.setIfInBounds_toArray, List.set_cons_zero, List.set_cons_succ, i64_w, i32_w]
                      rfl
                    refine one_ (i := 3) (N := some 55) #[true, true, true, true, true, true, false, false] rfl rfl (one_of HT_.out (by kernel_rfl)) (by decide) (fun K hK => ?_)
                    refine goes_ Try.func24 (by kernel_rfl) rfl #[.slice Ao40 x7_2.length co40, .string ((rd_T90 l1_3 x48_2).f0)] (by rfl) rfl rfl (by (try simp only [List.map_toArray, List.map_cons, List.map_nil]); first | done | rfl | (simp only [List.length_drop, List.length_take]; rfl)) ?_
                    with_reducible refine (num_PutText.calls _ _ x7_2 ((rd_T90 l1_3 x48_2).f0) t140 _ ?side1 ?side2 A33.out).mono ?_
                    (case side1 => repeat (first | exact (Kd.R_reads' HO_7.out).2.2 | (with_reducible refine Kd.C_alloc ?_ _) | (with_reducible refine Kd.C_drewN ?_ _) | (with_reducible refine Kd.C_drew ?_)))
                    (case side2 => exact (Kd.R_reads' HO_7.out).2.1)
                    rintro e w41 ⟨v141, rfl, ho0, hb⟩
                    refine ⟨_, rfl, ?_⟩
                    have n0_ := Aside0.mk (Kd.R_elder' (by (with_reducible repeat (first | apply Kd.R_alloc | apply Kd.R_drewN | apply Kd.R_drew)); exact HO_7.out) (Kd.R_base ho0) hb)
                    have n1_ := Aside0.mk (Kd.R_lower (Kd.R_new' ho0 (Kd.R_lt (by (with_reducible repeat (first | apply Kd.R_alloc | apply Kd.R_drewN | apply Kd.R_drew)); exact HO_7.out))) (below_size (by repeat (first | (with_reducible first | exact HB.out | apply below_alloc | apply pw_below_drewN | apply below_drew1 | refine below_set ?_ GE120.out | refine below_set ?_ GE139.out) | exact HB.out))))
                    have n2_ := Aside0.mk (blk_below (g := gb120) (o := .cells #[.string a1_0, .string a1_1, .slice A1_2 l1_2.length c1_2, .slice (some ad138) l1_3.length c1_3] 31 (0, 0)) (by (with_reducible repeat (first | refine blk_drewN ?_ _ | refine blk_drew ?_ | refine blk_alloc ?_ _)); exact BK120.out) hb)
                    have n3_ := Aside0.mk (blk_below (g := gb139) (o := .cells #[.string ((rd_T90 l1_3 x48_2).f0), .int .i64 ((rd_T90 l1_3 x48_2).f1)] 90 (0, 0)) (by (with_reducible repeat (first | refine blk_drewN ?_ _ | refine blk_drew ?_ | refine blk_alloc ?_ _)); exact BK139.out) hb)
                    have n4_ := Aside0.mk (below_step (by repeat (first | (with_reducible first | exact HB.out | apply below_alloc | apply pw_below_drewN | apply below_drew1 | refine below_set ?_ GE120.out | refine below_set ?_ GE139.out) | exact HB.out)) hb)
                    clear HO_7
                    clear BK120
                    clear BK139
                    clear HB
                    have HO_7 := n0_
                    have HO142 := n1_
                    have BK120 := n2_
                    have BK139 := n3_
                    have HB := n4_
                    clear n0_ n1_ n2_ n3_ n4_
                    (try clear hb)
                    (try clear hb2)
                    (try clear hk)
                    (try clear hi)
                    (try clear ho0)
                    obtain ⟨Ao42, co42, eo42⟩ := Kd.R_slice HO142.out
                    (first | subst eo42 | (injection eo42 with f1_ f2_ f3_; have f4_ := f1_.symm; have f5_ := f3_.symm; clear f1_ f2_ f3_; subst f4_; subst f5_))
                    refine hK.out _ _ ⟨(blk_cell BK139.out 0).trans rfl, (blk_cell BK139.out 1).trans rfl⟩ (fun hHeld => ?_)
                    clear hK K
                    refine norm_ (a' := ?_) ?_ ?_
                    rotate_left
                    · show Act.put _ (some 55) _ = _
                      simp only [Act.put, List.setIfInBounds_toArray, List.set_cons_zero, List.set_cons_succ, i64_w, i32_w]
                      rfl
                    refine one_ (i := 6) (N := some 58) #[true, true, true, true, true, true, true, false] rfl rfl (one_of HT_.out (by kernel_rfl)) (by decide) (fun K hK => ?_)
                    refine goes_ Try.func22 (by kernel_rfl) rfl #[.slice Ao42 t140.length co42, .int .i64 ((rd_T90 l1_3 x48_2).f1)] (by rfl) rfl rfl (by (try simp only [List.map_toArray, List.map_cons, List.map_nil]); first | done | rfl | (simp only [List.length_drop, List.length_take]; rfl)) ?_
                    with_reducible refine (num_Put.calls _ _ t140 ((rd_T90 l1_3 x48_2).f1) t143 _ ?side1 ?side2 A34.out).mono ?_
                    (case side1 => repeat (first | exact (Kd.R_reads' HO142.out).2.2 | (with_reducible refine Kd.C_alloc ?_ _) | (with_reducible refine Kd.C_drewN ?_ _) | (with_reducible refine Kd.C_drew ?_)))
                    (case side2 => exact (Kd.R_reads' HO142.out).2.1)
                    rintro e w43 ⟨v144, rfl, ho0, hb⟩
                    refine ⟨_, rfl, ?_⟩
                    have n0_ := Aside0.mk (Kd.R_elder' (by (with_reducible repeat (first | apply Kd.R_alloc | apply Kd.R_drewN | apply Kd.R_drew)); exact HO_7.out) (Kd.R_base ho0) hb)
                    have n1_ := Aside0.mk (Kd.R_elder' (by (with_reducible repeat (first | apply Kd.R_alloc | apply Kd.R_drewN | apply Kd.R_drew)); exact HO142.out) (Kd.R_base ho0) hb)
                    have n2_ := Aside0.mk (Kd.R_lower (Kd.R_new' (Kd.R_new' ho0 (Kd.R_lt (by (with_reducible repeat (first | apply Kd.R_alloc | apply Kd.R_drewN | apply Kd.R_drew)); exact HO_7.out))) (Kd.R_lt (by (with_reducible repeat (first | apply Kd.R_alloc | apply Kd.R_drewN | apply Kd.R_drew)); exact HO142.out))) (below_size (by repeat (first | (with_reducible first | exact HB.out | apply below_alloc | apply pw_below_drewN | apply below_drew1 | refine below_set ?_ GE120.out | refine below_set ?_ GE139.out) | exact HB.out))))
                    have n3_ := Aside0.mk (blk_below (g := gb120) (o := .cells #[.string a1_0, .string a1_1, .slice A1_2 l1_2.length c1_2, .slice (some ad138) l1_3.length c1_3] 31 (0, 0)) (by (with_reducible repeat (first | refine blk_drewN ?_ _ | refine blk_drew ?_ | refine blk_alloc ?_ _)); exact BK120.out) hb)
                    have n4_ := Aside0.mk (blk_below (g := gb139) (o := .cells #[.string ((rd_T90 l1_3 x48_2).f0), .int .i64 ((rd_T90 l1_3 x48_2).f1)] 90 (0, 0)) (by (with_reducible repeat (first | refine blk_drewN ?_ _ | refine blk_drew ?_ | refine blk_alloc ?_ _)); exact BK139.out) hb)
                    have n5_ := Aside0.mk (below_step (by repeat (first | (with_reducible first | exact HB.out | apply below_alloc | apply pw_below_drewN | apply below_drew1 | refine below_set ?_ GE120.out | refine below_set ?_ GE139.out) | exact HB.out)) hb)
                    clear HO_7
                    clear HO142
                    clear BK120
                    clear BK139
                    clear HB
                    have HO_7 := n0_
                    have HO142 := n1_
                    have HO145 := n2_
                    have BK120 := n3_
                    have BK139 := n4_
                    have HB := n5_
                    clear n0_ n1_ n2_ n3_ n4_ n5_
                    (try clear hb)
                    (try clear hb2)
                    (try clear hk)
                    (try clear hi)
                    (try clear ho0)
                    refine hK.out _ _ ⟨(blk_cell BK139.out 0).trans rfl, (blk_cell BK139.out 1).trans rfl⟩ (fun hHeld => ?_)
                    clear hK K
                    refine norm_ (a' := ?_) ?_ ?_
                    rotate_left
                    · show Act.put _ (some 58) _ = _
                      simp only [Act.put, List.setIfInBounds_toArray, List.set_cons_zero, List.set_cons_succ, i64_w, i32_w]
                      rfl
                    refine pure_ (i := 7) (N := some 7) (v := ?_) (a' := ?_) #[true, true, true, true, true, true, true, true] rfl rfl (any_of HT_.out (by kernel_rfl)) (fun _ _ _ h => h) (Or.inl ⟨by rfl, ?_⟩) ?_ ?_
                    rotate_left
                    · intro w'
                      go_simp
                      with_reducible rfl
                    rotate_left
                    · simp only [Act.put, List.setIfInBounds_toArray, List.set_cons_zero, List.set_cons_succ, i64_w, i32_w]
                      rfl
                    refine done_ (done_of HT_.out (by kernel_rfl)) ?_
                    try go_wp2
                    go_roundg k2
                    case measure => have := HK1.out; have := HK2.out; omega
                    case rel => exact ⟨(t143), (wrap64 (x48_2 + 1)), (by first | rfl | (simp; done) | (simp [*]; done)), H', ⟨by have := HK1.out; have := HK2.out; omega⟩, ⟨by (with_reducible repeat (first | apply Kd.R_alloc | apply Kd.R_drewN | apply Kd.R_drew)); exact Kd.R_mono HO145.out (fun _ hk => trivial)⟩, ⟨by (with_reducible repeat (first | refine blk_drewN ?_ _ | refine blk_drew ?_ | refine blk_alloc ?_ _)); exact BK120.out⟩, ⟨by repeat (first | (with_reducible first | exact HB.out | apply below_alloc | apply pw_below_drewN | apply below_drew1 | refine below_set ?_ GE120.out | refine below_set ?_ GE139.out) | exact HB.out)⟩⟩
                  · rw [if_neg c32] at H
                    exact absurd H (by simp)
                · rw [if_neg c31] at H
                  exact absurd H (by simp)
              · rw [if_neg c30] at H
                have c30b0 : decide (x48_2 < (l1_3.length : Int)) = false := decide_eq_false c30
                clear c30
                simp only [Option.some.injEq, Prod.mk.injEq] at H
                obtain ⟨rfl, rfl⟩ := H
                go_wp2
                go_ret2
                exact ⟨_, by first | rfl | (simp [errW_none, errW_some] <;> rfl) | (simp [*, errW_none, errW_some] <;> rfl), by (with_reducible repeat (first | apply Kd.R_alloc | apply Kd.R_drewN | apply Kd.R_drew)); exact HO_7.out, by repeat (first | (with_reducible first | exact HB.out | apply below_alloc | apply pw_below_drewN | apply below_drew1 | refine below_set ?_ GE120.out) | exact HB.out)⟩
  · rw [if_neg c4] at H
    have c4b0 : (t121 == 0) = false := beq_eq_false_iff_ne.mpr c4
    have c4b1 : (t121 != 0) = true := bne_iff_ne.mpr c4
    simp only [Option.some.injEq, Prod.mk.injEq] at H
    obtain ⟨rfl, rfl⟩ := H
    go_enter Try.func26, Try.ntmps26
    go_wp2_with (first | ((with_reducible refine gate_dst (N := 3) rfl ?_); refine box_event ?hg (N := 3) ?hd (cs := #[.string a1_0, .string a1_1, .slice A1_2 l1_2.length c1_2, .slice A1_3 l1_3.length c1_3]) (t := 31) ?hr ?_; (case hd => rfl); (case hg => rfl); (case hr => first | (go_simp; done) | (go_simp; rfl)); intro gb120 hg w44 hbox hb; have n0_ := Aside0.mk (below_step (by repeat (first | (with_reducible first | exact HB.out | apply below_alloc | apply pw_below_drewN | apply below_drew1) | exact HB.out)) hb); have n1_ := Aside0.mk (hbox); have n2_ := Aside0.mk ((by rw [hg]; exact (below_size (by repeat (first | (with_reducible first | exact HB.out | apply below_alloc | apply pw_below_drewN | apply below_drew1) | exact HB.out))) : w.heap.size ≤ gb120)); have n3_ := Aside0.mk ((by rw [hg]; exact (below_size (by repeat (first | (with_reducible first | exact HB.out | apply below_alloc | apply pw_below_drewN | apply below_drew1) | exact HB.out))) : w.heap.size ≤ gb120)); clear HB; have HB := n0_; have BK120 := n1_; have GW120 := n2_; have GE120 := n3_; clear n0_ n1_ n2_ n3_; clear hb hbox hg; have hcz45_0 : w44.cell? ⟨gb120, 0, none⟩ = some (.string a1_0) := (blk_cell BK120.out 0).trans rfl; have hcz45_1 : w44.cell? ⟨gb120, 1, none⟩ = some (.string a1_1) := (blk_cell BK120.out 1).trans rfl; have hcz45_2 : w44.cell? ⟨gb120, 2, none⟩ = some (.slice A1_2 l1_2.length c1_2) := (blk_cell BK120.out 2).trans rfl; have hcz45_3 : w44.cell? ⟨gb120, 3, none⟩ = some (.slice A1_3 l1_3.length c1_3) := (blk_cell BK120.out 3).trans rfl; have hfz45_0 := blk_frozen BK120.out 0; have hfz45_1 := blk_frozen BK120.out 1; have hfz45_2 := blk_frozen BK120.out 2; have hfz45_3 := blk_frozen BK120.out 3) | ((with_reducible refine gate_callee (f := 45) rfl ?_); refine goesL_ (some 13) rfl rfl Try.func45 (by kernel_rfl) rfl #[.agg #[.string a1_0, .string a1_1, .slice A1_2 l1_2.length c1_2, .slice A1_3 l1_3.length c1_3]] rfl (by (try simp only [List.map_toArray, List.map_cons, List.map_nil]); first | done | rfl | (simp only [List.length_drop, List.length_take]; rfl)) ?_; (with_reducible refine (event_May.calls a1_0 a1_1 _ _ l1_2 _ _ l1_3 t121 _ ?side1 ?side2 ?side3 ?side4 A3.out).mono ?_); (case side1 => repeat (first | exact (Kd.C_below HR1_2.out HB.out) | (with_reducible refine Kd.C_alloc ?_ _) | (with_reducible refine Kd.C_drewN ?_ _) | (with_reducible refine Kd.C_drew ?_))); (case side2 => exact HC1_2.out); (case side3 => repeat (first | exact (Kd.C_below HR1_3.out HB.out) | (with_reducible refine Kd.C_alloc ?_ _) | (with_reducible refine Kd.C_drewN ?_ _) | (with_reducible refine Kd.C_drew ?_))); (case side4 => exact HC1_3.out); rintro e w46 ⟨rfl, hb⟩; refine ⟨_, rfl, ?_⟩; have n0_ := Aside0.mk (blk_below (g := gb120) (o := .cells #[.string a1_0, .string a1_1, .slice A1_2 l1_2.length c1_2, .slice A1_3 l1_3.length c1_3] 31 (0, 0)) (by (with_reducible repeat (first | refine blk_drewN ?_ _ | refine blk_drew ?_ | refine blk_alloc ?_ _)); exact BK120.out) hb); have n1_ := Aside0.mk (below_step (by repeat (first | (with_reducible first | exact HB.out | apply below_alloc | apply pw_below_drewN | apply below_drew1 | refine below_set ?_ GE120.out) | exact HB.out)) hb); clear BK120; clear HB; have BK120 := n0_; have HB := n1_; clear n0_ n1_; (try clear hb); (try clear hb2); (try clear hk); (try clear hi)))
    go_ret2
    exact ⟨_, by first | rfl | (simp [errW_none, errW_some] <;> rfl) | (simp [*, errW_none, errW_some] <;> rfl), by first | exact Kd.R_nil _ _ _ _ _ | exact Kd.N_nil _ _ _ _ _ | exact Kd.V_nil _ _ _ _ _ | exact Kd.Q_nil _ _ _ _ _ | exact Kd.S_nil _ _ _ _ _, by repeat (first | (with_reducible first | exact HB.out | apply below_alloc | apply pw_below_drewN | apply below_drew1 | refine below_set ?_ GE120.out) | exact HB.out)⟩

end Go.Proofs.Ytocpcnmnhckcpaa.Prt
namespace Go.Proofs.Ytocpcnmnhckcpaa.Prt
open Go.RowKit Go.Proofs.YtocpcnmnhckcpaaW.PrintWords Go.Proofs.YtocpcnmnhckcpaaW.PrintLast Go.Proofs.YtocpcnmnhckcpaaW.PrintMore Go.Proofs.Ytocpcnmnhckcpaa.Num Go.Proofs.Ytocpcnmnhckcpaa.Nam
set_option linter.unusedVariables false
set_option linter.unusedSimpArgs false

def eqE (x y : S31) : Bool := eqEv x.f0 x.f1 x.f2 x.f3 y.f0 y.f1 y.f2 y.f3
theorem eqE_iff (x y : S31) : eqE x y = true ↔ x = y := by
  unfold eqE
  rw [eqEv_iff]
  cases x; cases y; simp
def encFs (l : List S90) : List Int := l.flatMap fun f => encT (bytesOf f.f0) ++ enc f.f1
/-- An event as bytes. -/
def encEv (s t : ByteArray) (tags : List ByteArray) (fl : List S90) : List Int :=
  encT (bytesOf s) ++ (encT (bytesOf t) ++ ((enc (tags.length : Int) ++ encTs tags) ++ (enc (fl.length : Int) ++ encFs fl)))
/-- What an event is in which nothing is wrong. -/
structure OkE (s t : ByteArray) (tags : List ByteArray) (fl : List S90) : Prop where
  hs : mayL (bytesOf s) = true
  ht : mayL (bytesOf t) = true
  ht6 : tags.length ≤ 6
  hf4 : fl.length ≤ 4
  htag : ∀ x ∈ tags, tagB x = true
  hname : ∀ x ∈ fl, mayL (bytesOf x.f0) = true
  hr1 : riseB tags = true
  hr2 : riseB (fl.map (·.f0)) = true
  hov : ∀ x ∈ fl, -1099511627776 ≤ x.f1 ∧ x.f1 ≤ 1099511627776
theorem okE_iff (s t : ByteArray) (tags : List ByteArray) (fl : List S90) : mayE s t tags fl = 0 ↔ OkE s t tags fl := by
  unfold mayE
  constructor
  · intro h
    by_cases c1 : mayL (bytesOf s) = false ∨ mayL (bytesOf t) = false
    · rw [if_pos c1] at h; cases h
    rw [if_neg c1] at h
    by_cases c2 : 6 < tags.length ∨ 4 < fl.length
    · rw [if_pos c2] at h; cases h
    rw [if_neg c2] at h
    by_cases c3 : (tags.any fun s => !tagB s) = true ∨ ((fl.map (·.f0)).any fun s => !mayL (bytesOf s)) = true
    · rw [if_pos c3] at h; cases h
    rw [if_neg c3] at h
    by_cases c4 : riseB tags = false ∨ riseB (fl.map (·.f0)) = false ∨ fl.any overB = true
    · rw [if_pos c4] at h; cases h
    simp only [not_or, Bool.not_eq_false, Bool.not_eq_true] at c1 c3 c4
    refine ⟨c1.1, c1.2, by omega, by omega, fun x hx => ?_, fun x hx => ?_, c4.1, c4.2.1, fun x hx => ?_⟩
    · have := List.any_eq_false.1 c3.1 x hx; simpa using this
    · have := List.any_eq_false.1 c3.2 x.f0 (List.mem_map.2 ⟨x, hx, rfl⟩); simpa using this
    · have := List.any_eq_false.1 c4.2.2 x hx
      unfold overB at this
      rw [decide_eq_true_iff] at this
      omega
  · intro h
    rw [if_neg (by rw [h.hs, h.ht]; simp), if_neg (by have := h.ht6; have := h.hf4; omega), if_neg ?_, if_neg ?_]
    · rw [h.hr1, h.hr2]
      have : fl.any overB = false := List.any_eq_false.2 (fun x hx => by unfold overB; rw [decide_eq_true_iff]; have := h.hov x hx; omega)
      rw [this]; simp
    · rintro (c | c)
      · obtain ⟨x, hx, h2⟩ := List.any_eq_true.1 c
        rw [h.htag x hx] at h2; cases h2
      · obtain ⟨y, hy, h2⟩ := List.any_eq_true.1 c
        obtain ⟨x, hx, rfl⟩ := List.mem_map.1 hy
        rw [h.hname x hx] at h2; cases h2

theorem evcode_Put_l1 (s t : ByteArray) (tags : List ByteArray) (fl : List S90) (hf : fl.length ≤ 4) (hn : ∀ x ∈ fl, x.f0.size ≤ 24) (ho : ∀ x ∈ fl, -1099511627776 ≤ x.f1 ∧ x.f1 ≤ 1099511627776) : ∀ (n i k : Nat) (x : List Int), i + n = fl.length → n < k → x.length + 50 * n ≤ 140737488348000 → evcode_Put.l1 k x fl (fl.length : Int) (i : Int) = some (x ++ encFs (fl.drop i), 0) := by
  intro n
  induction n with
  | zero =>
    intro i k x hi hk hx
    obtain ⟨k, rfl⟩ : ∃ m, k = m + 1 := ⟨k - 1, by omega⟩
    rw [evcode_Put.l1, if_neg (by omega), List.drop_eq_nil_of_le (by omega)]
    unfold encFs; rw [List.flatMap_nil, List.append_nil]
  | succ n ih =>
    intro i k x hi hk hx
    obtain ⟨k, rfl⟩ : ∃ m, k = m + 1 := ⟨k - 1, by omega⟩
    have hm := rdF_mem (l := fl) (i := i) (by omega)
    have h1 := hn _ hm
    have h2 := ho _ hm
    have h3 := encT_len (rd_T90 fl (i : Int)).f0 (by omega)
    have h4 := enc_len (x := (rd_T90 fl (i : Int)).f1) ⟨by omega, by omega⟩
    have m1 : num_PutText.f x (rd_T90 fl (i : Int)).f0 = some (x ++ encT (bytesOf (rd_T90 fl (i : Int)).f0)) := if_pos (by omega)
    have m2 : num_Put.f (x ++ encT (bytesOf (rd_T90 fl (i : Int)).f0)) (rd_T90 fl (i : Int)).f1 = some ((x ++ encT (bytesOf (rd_T90 fl (i : Int)).f0)) ++ enc (rd_T90 fl (i : Int)).f1) := if_pos ⟨by rw [List.length_append]; omega, by omega, by omega⟩
    rw [evcode_Put.l1, if_pos (by omega), if_pos (by omega), if_pos (by omega), m1]
    simp only [Option.bind_some]
    rw [m2]
    simp only [Option.bind_some]
    rw [succW i (by omega), ih (i + 1) k _ (by omega) (by omega) (by rw [List.length_append, List.length_append]; omega), drop_rdF fl i (by omega)]
    unfold encFs; rw [List.flatMap_cons]; simp only [List.append_assoc]
theorem evcode_Put_l0 (s t : ByteArray) (tags : List ByteArray) (fl : List S90) (hf : fl.length ≤ 4) (ht : tags.length ≤ 6) (htg : ∀ x ∈ tags, x.size ≤ 49) (hn : ∀ x ∈ fl, x.f0.size ≤ 24) (ho : ∀ x ∈ fl, -1099511627776 ≤ x.f1 ∧ x.f1 ≤ 1099511627776) : ∀ (n i k : Nat) (x : List Int), i + n = tags.length → n + 5 < k → x.length + 60 * n ≤ 140737488347000 → evcode_Put.l0 k x tags (tags.length : Int) (i : Int) s t tags fl = some (x ++ (encTs (tags.drop i) ++ (enc (fl.length : Int) ++ encFs fl)), 0) := by
  intro n
  induction n with
  | zero =>
    intro i k x hi hk hx
    obtain ⟨k, rfl⟩ : ∃ m, k = m + 1 := ⟨k - 1, by omega⟩
    have h4 := enc_len (x := (fl.length : Int)) ⟨by omega, by omega⟩
    have m2 : num_Put.f x (fl.length : Int) = some (x ++ enc (fl.length : Int)) := if_pos ⟨by omega, by omega, by omega⟩
    rw [evcode_Put.l0, if_neg (by omega), m2, List.drop_eq_nil_of_le (by omega)]
    simp only [Option.bind_some]
    have := evcode_Put_l1 s t tags fl hf hn ho fl.length 0 k (x ++ enc (fl.length : Int)) (by omega) (by omega) (by rw [List.length_append]; omega)
    rw [List.drop_zero, List.append_assoc] at this
    exact this
  | succ n ih =>
    intro i k x hi hk hx
    obtain ⟨k, rfl⟩ : ∃ m, k = m + 1 := ⟨k - 1, by omega⟩
    have h1 := htg _ (rdOf_mem (l := tags) (i := i) (by omega))
    have h3 := encT_len (rdOf ByteArray.empty tags (i : Int)) (by omega)
    have m1 : num_PutText.f x (rdOf ByteArray.empty tags (i : Int)) = some (x ++ encT (bytesOf (rdOf ByteArray.empty tags (i : Int)))) := if_pos (by omega)
    rw [evcode_Put.l0, if_pos (by omega), if_pos (by omega), if_pos (by omega), m1]
    simp only [Option.bind_some]
    rw [succW i (by omega), ih (i + 1) k _ (by omega) (by omega) (by rw [List.length_append]; omega), drop_rd tags i (by omega)]
    unfold encTs; rw [List.flatMap_cons]; simp only [List.append_assoc]
def evcode_PutG.f (l0 : List Int) (a1_0 : ByteArray) (a1_1 : ByteArray) (l1_2 : List ByteArray) (l1_3 : List (S90)) : Option (List Int × Int) :=
  if l0.length ≤ 140737488340000 ∧ l1_2.length ≤ 9223372036854775807 ∧ fitE a1_0 a1_1 l1_2 l1_3 = true then some (if mayE a1_0 a1_1 l1_2 l1_3 = 0 then (l0 ++ encEv a1_0 a1_1 l1_2 l1_3, 0) else ([], mayE a1_0 a1_1 l1_2 l1_3)) else none
theorem evcode_PutG.val {l0 : List Int} {a1_0 : ByteArray} {a1_1 : ByteArray} {l1_2 : List ByteArray} {l1_3 : List (S90)} {r1 : List Int} {r2 : Int} (h : evcode_PutG.f l0 a1_0 a1_1 l1_2 l1_3 = some (r1, r2)) : ∃ k, evcode_Put.f k l0 a1_0 a1_1 l1_2 l1_3 = some (r1, r2) := by
  unfold evcode_PutG.f at h
  by_cases hc : l0.length ≤ 140737488340000 ∧ l1_2.length ≤ 9223372036854775807 ∧ fitE a1_0 a1_1 l1_2 l1_3 = true
  · rw [if_pos hc] at h
    rw [← h]
    have m0 : event_May.f a1_0 a1_1 l1_2 l1_3 = some (mayE a1_0 a1_1 l1_2 l1_3) := if_pos hc.2.2
    refine ⟨l1_2.length + 7, ?_⟩
    unfold evcode_Put.f
    rw [m0]
    simp only [Option.bind_some]
    by_cases h0 : mayE a1_0 a1_1 l1_2 l1_3 = 0
    · rw [if_pos h0, if_pos h0]
      have ok := (okE_iff _ _ _ _).1 h0
      have z1 := may_size ok.hs
      have z2 := may_size ok.ht
      have q1 := encT_len a1_0 (by omega)
      have q2 := encT_len a1_1 (by omega)
      have ht6 := ok.ht6
      have q3 := enc_len (x := (l1_2.length : Int)) ⟨by omega, by omega⟩
      have m1 : num_PutText.f l0 a1_0 = some (l0 ++ encT (bytesOf a1_0)) := if_pos (by omega)
      have m2 : num_PutText.f (l0 ++ encT (bytesOf a1_0)) a1_1 = some ((l0 ++ encT (bytesOf a1_0)) ++ encT (bytesOf a1_1)) := if_pos (by rw [List.length_append]; omega)
      have m3 : num_Put.f ((l0 ++ encT (bytesOf a1_0)) ++ encT (bytesOf a1_1)) (l1_2.length : Int) = some (((l0 ++ encT (bytesOf a1_0)) ++ encT (bytesOf a1_1)) ++ enc (l1_2.length : Int)) := if_pos ⟨by rw [List.length_append, List.length_append]; omega, by omega, by omega⟩
      rw [m1]
      simp only [Option.bind_some]
      rw [m2]
      simp only [Option.bind_some]
      rw [m3]
      simp only [Option.bind_some]
      have := evcode_Put_l0 a1_0 a1_1 l1_2 l1_3 ok.hf4 ht6 (fun x hx => tag_size (ok.htag x hx)) (fun x hx => may_size (ok.hname x hx)) ok.hov l1_2.length 0 (l1_2.length + 7) (((l0 ++ encT (bytesOf a1_0)) ++ encT (bytesOf a1_1)) ++ enc (l1_2.length : Int)) (by omega) (by omega) (by rw [List.length_append, List.length_append, List.length_append]; omega)
      rw [List.drop_zero] at this
      refine this.trans ?_
      unfold encEv
      simp only [List.append_assoc]
    · rw [if_neg h0, if_neg h0]
  · rw [if_neg hc] at h; cases h
theorem evcode_PutG.calls (A0 : Option Addr) (c0 : Nat) (l0 : List Int) (a1_0 : ByteArray) (a1_1 : ByteArray) (A1_2 : Option Addr) (c1_2 : Nat) (l1_2 : List ByteArray) (A1_3 : Option Addr) (c1_3 : Nat) (l1_3 : List (S90)) (r1 : List Int) (r2 : Int) (w : World) (hr0 : Kd.C (Kd.int .u8) w A0 l0.length l0) (hc0 : l0.length ≤ c0) (hr1_2 : Kd.C Kd.string w A1_2 l1_2.length l1_2) (hc1_2 : l1_2.length ≤ c1_2) (hr1_3 : Kd.C k90 w A1_3 l1_3.length l1_3) (hc1_3 : l1_3.length ≤ c1_3) (h : evcode_PutG.f l0 a1_0 a1_1 l1_2 l1_3 = some (r1, r2)) :
    Calls Try.prog 26 #[.slice A0 l0.length c0, .agg #[.string a1_0, .string a1_1, .slice A1_2 l1_2.length c1_2, .slice A1_3 l1_3.length c1_3]] w fun e w' => ∃ v0_ : Value, e = .returned (.tuple #[v0_, .int .i64 r2]) ∧ Kd.R (Kd.int .u8) 5 w' w.heap.size (fun _ => True) v0_ r1 ∧ Below w.heap.size w w' := by
  obtain ⟨k, hk⟩ := evcode_PutG.val h
  exact evcode_Put.calls k A0 c0 l0 a1_0 a1_1 A1_2 c1_2 l1_2 A1_3 c1_3 l1_3 r1 r2 w hr0 hc0 hr1_2 hc1_2 hr1_3 hc1_3 hk

end Go.Proofs.Ytocpcnmnhckcpaa.Prt
namespace Go.Proofs.Ytocpcnmnhckcpaa.Prt
open Go.RowKit Go.Proofs.YtocpcnmnhckcpaaW.PrintWords Go.Proofs.YtocpcnmnhckcpaaW.PrintLast Go.Proofs.YtocpcnmnhckcpaaW.PrintMore Go.Proofs.Ytocpcnmnhckcpaa.Num Go.Proofs.Ytocpcnmnhckcpaa.Nam
set_option linter.unusedVariables false
set_option linter.unusedSimpArgs false

theorem putG_ok {l0 : List Int} {s t : ByteArray} {a : List ByteArray} {f : List S90} (hl : l0.length ≤ 140737488340000) (ha : a.length ≤ 9223372036854775807) (hf : fitE s t a f = true) :
    evcode_PutG.f l0 s t a f = some (if mayE s t a f = 0 then (l0 ++ encEv s t a f, 0) else ([], mayE s t a f)) := if_pos ⟨hl, ha, hf⟩
theorem OkE.sizes {s t : ByteArray} {a : List ByteArray} {f : List S90} (h : OkE s t a f) : s.size ≤ 9223372036854775807 ∧ t.size ≤ 9223372036854775807 ∧ (∀ x ∈ a, x.size ≤ 9223372036854775807) ∧ (∀ x ∈ f, x.f0.size ≤ 9223372036854775807 ∧ i64 x.f1) ∧ i64 (a.length : Int) ∧ i64 (f.length : Int) := by
  have h1 := may_size h.hs
  have h2 := may_size h.ht
  have h3 := h.ht6
  have h4 := h.hf4
  refine ⟨by omega, by omega, fun x hx => ?_, fun x hx => ⟨?_, ?_⟩, ⟨by omega, by omega⟩, ⟨by omega, by omega⟩⟩
  · have := tag_size (h.htag x hx); omega
  · have := may_size (h.hname x hx); omega
  · have := h.hov x hx; exact ⟨by omega, by omega⟩
theorem encFs_bytes (a : List S90) : isBytes (encFs a) := by
  induction a with
  | nil => intro c hc; simp [encFs] at hc
  | cons x r ih =>
    have e : encFs (x :: r) = (encT (bytesOf x.f0) ++ enc x.f1) ++ encFs r := by unfold encFs; rw [List.flatMap_cons]
    rw [e]
    exact isBytes_append.2 ⟨isBytes_append.2 ⟨isBytes_append.2 ⟨enc_bytes _, bytesOf_isBytes x.f0⟩, enc_bytes _⟩, ih⟩
theorem encEv_bytes (s t : ByteArray) (a : List ByteArray) (f : List S90) : isBytes (encEv s t a f) := by
  unfold encEv
  exact isBytes_append.2 ⟨isBytes_append.2 ⟨enc_bytes _, bytesOf_isBytes s⟩, isBytes_append.2 ⟨isBytes_append.2 ⟨enc_bytes _, bytesOf_isBytes t⟩, isBytes_append.2 ⟨isBytes_append.2 ⟨enc_bytes _, encTs_bytes a⟩, isBytes_append.2 ⟨enc_bytes _, encFs_bytes f⟩⟩⟩⟩
end Go.Proofs.Ytocpcnmnhckcpaa.Prt
namespace Go.Proofs.Ytocpcnmnhckcpaa.Prt
open Go.RowKit Go.Proofs.YtocpcnmnhckcpaaW.PrintWords Go.Proofs.YtocpcnmnhckcpaaW.PrintLast Go.Proofs.YtocpcnmnhckcpaaW.PrintMore Go.Proofs.Ytocpcnmnhckcpaa.Num Go.Proofs.Ytocpcnmnhckcpaa.Nam
set_option linter.unusedVariables false
set_option linter.unusedSimpArgs false

theorem encFs_snoc (a : List S90) (x : S90) : encFs (a ++ [x]) = encFs a ++ (encT (bytesOf x.f0) ++ enc x.f1) := by unfold encFs; simp
theorem takeFs_good (l : List Int) (b : Bool) (hb : isBytes l) : ∀ n, (takeFs n l b).2.2 = false → b = false ∧ l = encFs (takeFs n l b).1 ++ (takeFs n l b).2.1
  | 0, h => ⟨h, rfl⟩
  | n + 1, h => by
    simp only [takeFs] at h ⊢
    have hy := (takeFs_left l b hb n).1
    obtain ⟨h1, h2, _⟩ := numOf_good (aftT_bytes hy) h
    obtain ⟨h3, h4⟩ := textOf_good hy h1
    obtain ⟨h5, h6⟩ := takeFs_good l b hb n h3
    refine ⟨h5, ?_⟩
    rw [encFs_snoc, List.append_assoc, List.append_assoc, ← h2, ← h4]; exact h6
/-- What is taken without an error stands there as bytes. -/
theorem takeE_good {l : List Int} {b : Bool} (hb : isBytes l) {x : S31} {l' : List Int} {b' : Bool} (h : takeE l b = (x, 0, l', b')) :
    b = false ∧ b' = false ∧ OkE x.f0 x.f1 x.f2 x.f3 ∧ l = encEv x.f0 x.f1 x.f2 x.f3 ++ l' := by
  unfold takeE at h
  simp only at h
  split at h
  · simp at h
  rename_i hn
  split at h
  · simp at h
  rename_i hm
  split at h
  · simp at h
  rename_i hr
  simp only [not_or, Bool.not_eq_true, ne_eq, Decidable.not_not] at hr
  obtain ⟨hr1, hr2⟩ := hr
  have hx := congrArg (fun z => z.1) h
  have hl := congrArg (fun z => z.2.2.1) h
  have hb2 := congrArg (fun z => z.2.2.2) h
  simp only at hx hl hb2
  clear h
  subst hx; subst hl; subst hb2
  refine ⟨?_, hr1, (okE_iff _ _ _ _).1 hr2, ?_⟩
  all_goals
    have y1 := aftT_bytes hb
    have y2 := aftT_bytes y1
    have y3 := aft_bytes y2
    obtain ⟨g1, g2⟩ := takeFs_good _ _ (aft_bytes (takeTs_left _ _ y3 _).1) _ hr1
    obtain ⟨g3, g4, g4'⟩ := numOf_good (takeTs_left _ _ y3 _).1 g1
    obtain ⟨g5, g6⟩ := takeTs_good _ _ y3 _ g3
    obtain ⟨g7, g8, g8'⟩ := numOf_good y2 g5
    obtain ⟨g9, g10⟩ := textOf_good y1 g7
    obtain ⟨g11, g12⟩ := textOf_good hb g9
  · exact g11
  · have e1 : ((takeTs (numOf (aftT (aftT l))).toNat (aft (aftT (aftT l))) (badOf (aftT (aftT l)) (badT (aftT l) (badT l b)))).1.length : Int) = numOf (aftT (aftT l)) := by rw [takeTs_len]; omega
    have e2 : ((takeFs (numOf (takeTs (numOf (aftT (aftT l))).toNat (aft (aftT (aftT l))) (badOf (aftT (aftT l)) (badT (aftT l) (badT l b)))).2.1).toNat (aft (takeTs (numOf (aftT (aftT l))).toNat (aft (aftT (aftT l))) (badOf (aftT (aftT l)) (badT (aftT l) (badT l b)))).2.1) (badOf (takeTs (numOf (aftT (aftT l))).toNat (aft (aftT (aftT l))) (badOf (aftT (aftT l)) (badT (aftT l) (badT l b)))).2.1 (takeTs (numOf (aftT (aftT l))).toNat (aft (aftT (aftT l))) (badOf (aftT (aftT l)) (badT (aftT l) (badT l b)))).2.2)).1.length : Int) = numOf (takeTs (numOf (aftT (aftT l))).toNat (aft (aftT (aftT l))) (badOf (aftT (aftT l)) (badT (aftT l) (badT l b)))).2.1 := by rw [takeFs_len]; omega
    unfold encEv
    simp only
    rw [e1, e2]
    simp only [List.append_assoc]
    rw [← g2, ← g4, ← g6, ← g8, ← g10]
    exact g12
theorem takeFs_enc (a : List S90) (ha : ∀ x ∈ a, x.f0.size ≤ 9223372036854775807 ∧ i64 x.f1) (r : List Int) (b : Bool) : ∀ n, n ≤ a.length → takeFs n (encFs a ++ r) b = (a.take n, encFs (a.drop n) ++ r, b)
  | 0, _ => by simp [takeFs]
  | n + 1, h => by
    have ih := takeFs_enc a ha r b n (by omega)
    have hd := drop_rdF a n (by omega)
    have hx := ha _ (rdF_mem (l := a) (i := n) (by omega))
    simp only [takeFs, ih]
    have e : encFs (a.drop n) ++ r = encT (bytesOf (rd_T90 a (n : Int)).f0) ++ (enc (rd_T90 a (n : Int)).f1 ++ (encFs (a.drop (n + 1)) ++ r)) := by
      rw [hd]; unfold encFs; rw [List.flatMap_cons, List.append_assoc, List.append_assoc]
    rw [e]
    obtain ⟨h1, h2, h3⟩ := textOf_enc hx.1 (enc (rd_T90 a (n : Int)).f1 ++ (encFs (a.drop (n + 1)) ++ r)) b
    rw [h1, h2, h3]
    obtain ⟨h4, h5, h6⟩ := numOf_enc hx.2 (encFs (a.drop (n + 1)) ++ r) b
    rw [h4, h5, h6]
    refine Prod.ext ?_ rfl
    show a.take n ++ [⟨(rd_T90 a (n : Int)).f0, (rd_T90 a (n : Int)).f1⟩] = a.take (n + 1)
    rw [List.take_succ_eq_append_getElem (by omega)]
    unfold rd_T90
    rw [Int.toNat_natCast, List.getD_eq_getElem?_getD, List.getElem?_eq_getElem (by omega)]; rfl
theorem takeE_enc {s t : ByteArray} {a : List ByteArray} {f : List S90} (h : OkE s t a f) (r : List Int) : takeE (encEv s t a f ++ r) false = (⟨s, t, a, f⟩, 0, r, false) := by
  obtain ⟨z1, z2, z3, z4, z5, z6⟩ := h.sizes
  have h6 := h.ht6
  have h4 := h.hf4
  unfold encEv
  simp only [List.append_assoc]
  obtain ⟨a1, a2, a3⟩ := textOf_enc z1 (encT (bytesOf t) ++ (enc (a.length : Int) ++ (encTs a ++ (enc (f.length : Int) ++ (encFs f ++ r))))) false
  obtain ⟨b1, b2, b3⟩ := textOf_enc z2 (enc (a.length : Int) ++ (encTs a ++ (enc (f.length : Int) ++ (encFs f ++ r)))) false
  obtain ⟨c1, c2, c3⟩ := numOf_enc z5 (encTs a ++ (enc (f.length : Int) ++ (encFs f ++ r))) false
  have d := takeTs_enc a z3 (enc (f.length : Int) ++ (encFs f ++ r)) false a.length (Nat.le_refl _)
  rw [List.take_length, List.drop_length] at d
  have d' : takeTs a.length (encTs a ++ (enc (f.length : Int) ++ (encFs f ++ r))) false = (a, enc (f.length : Int) ++ (encFs f ++ r), false) := by rw [d]; simp [encTs]
  obtain ⟨e1, e2, e3⟩ := numOf_enc z6 (encFs f ++ r) false
  have g := takeFs_enc f z4 r false f.length (Nat.le_refl _)
  rw [List.take_length, List.drop_length] at g
  have g' : takeFs f.length (encFs f ++ r) false = (f, r, false) := by rw [g]; simp [encFs]
  unfold takeE
  simp only [a1, a2, a3, b1, b2, b3, c1, c2, c3]
  rw [if_neg (by omega), Int.toNat_natCast, d']
  simp only [e1, e2, e3]
  rw [if_neg (by omega), Int.toNat_natCast, g']
  simp only
  rw [if_neg (by rw [(okE_iff _ _ _ _).2 h]; simp)]
theorem takeE_code (l : List Int) (b : Bool) : (takeE l b).2.1 = 0 ∨ (takeE l b).2.1 = 2 ∧ (takeE l b).1 = z31 := by
  unfold takeE
  simp only
  split
  · exact .inr ⟨rfl, rfl⟩
  split
  · exact .inr ⟨rfl, rfl⟩
  split
  · exact .inr ⟨rfl, rfl⟩
  · exact .inl rfl
end Go.Proofs.Ytocpcnmnhckcpaa.Prt
namespace Go.Proofs.Ytocpcnmnhckcpaa.Prt
open Go.RowKit Go.Proofs.YtocpcnmnhckcpaaW.PrintWords Go.Proofs.YtocpcnmnhckcpaaW.PrintLast Go.Proofs.YtocpcnmnhckcpaaW.PrintMore Go.Proofs.Ytocpcnmnhckcpaa.Num Go.Proofs.Ytocpcnmnhckcpaa.Nam
set_option linter.unusedVariables false
set_option linter.unusedSimpArgs false

def name_May.f (a0 : ByteArray) : Option (Bool) := if a0.size ≤ 9223372036854775807 then some (mayL (bytesOf a0)) else none
theorem name_May.calls (a0 : ByteArray) (r : Bool) (w : World) (h : name_May.f a0 = some r) :
    Calls Try.prog 62 #[.string a0] w fun e w' => e = .returned (.bool r) ∧ Below w.heap.size w w' := by
  unfold name_May.f at h
  by_cases hc : a0.size ≤ 9223372036854775807
  · rw [if_pos hc] at h
    obtain rfl := Option.some.inj h
    exact may_calls a0 w hc
  · rw [if_neg hc] at h; cases h
def name_MayTag.f (a0 : ByteArray) : Option (Bool) := if a0.size ≤ 9223372036854775807 then some (tagB a0) else none
theorem name_MayTag.calls (a0 : ByteArray) (r : Bool) (w : World) (h : name_MayTag.f a0 = some r) :
    Calls Try.prog 65 #[.string a0] w fun e w' => e = .returned (.bool r) ∧ Below w.heap.size w w' := by
  unfold name_MayTag.f at h
  by_cases hc : a0.size ≤ 9223372036854775807
  · rw [if_pos hc] at h
    obtain rfl := Option.some.inj h
    exact mayTag_calls a0 w hc
  · rw [if_neg hc] at h; cases h
end Go.Proofs.Ytocpcnmnhckcpaa.Prt
namespace Go.Proofs.Ytocpcnmnhckcpaa.Prt
open Go.RowKit Go.Proofs.YtocpcnmnhckcpaaW.PrintWords Go.Proofs.YtocpcnmnhckcpaaW.PrintLast Go.Proofs.YtocpcnmnhckcpaaW.PrintMore
attribute [local go_sem] max2_int min2_int max_two min_two max_three min_three max_four min_four   -- for this text's walks alone
set_option linter.unusedVariables false
set_option linter.unusedSimpArgs false

def query_May_1.f (l0_0 : List ByteArray) (l0_1 : List ByteArray) : Option (Bool) := if (l0_0.length : Int) > 4 then (some true) else (some (decide ((l0_1.length : Int) > 4)))
set_option maxHeartbeats 8000000 in
set_option maxRecDepth 100000 in
theorem query_May_1.calls (A0_0 : Option Addr) (c0_0 : Nat) (l0_0 : List ByteArray) (A0_1 : Option Addr) (c0_1 : Nat) (l0_1 : List ByteArray) (r : Bool) (w : World) (hr0_0 : Kd.C Kd.string w A0_0 l0_0.length l0_0) (hc0_0 : l0_0.length ≤ c0_0) (hr0_1 : Kd.C Kd.string w A0_1 l0_1.length l0_1) (hc0_1 : l0_1.length ≤ c0_1) (h : query_May_1.f l0_0 l0_1 = some r) :
    Calls Try.prog 68 #[.agg #[.slice A0_0 l0_0.length c0_0, .slice A0_1 l0_1.length c0_1]] w fun e w' => e = .returned (.bool r) ∧ Below w.heap.size w w' := by
  have hu92 := Try.underlying92
  have HR0_0 := Aside0.mk hr0_0
  have HC0_0 := Aside0.mk hc0_0
  clear hr0_0 hc0_0
  have HR0_1 := Aside0.mk hr0_1
  have HC0_1 := Aside0.mk hc0_1
  clear hr0_1 hc0_1
  have HB := Aside0.mk (Below.refl w.heap.size w)
  have H : (if (l0_0.length : Int) > 4 then (some true) else (some (decide ((l0_1.length : Int) > 4)))) = some r := h
  clear h
  by_cases c2 : (l0_0.length : Int) > 4
  · rw [if_pos c2] at H
    have c2b0 : decide (4 < (l0_0.length : Int)) = true := decide_eq_true c2
    have c2b1 : decide (4 < l0_0.length) = true := decide_eq_true (by omega)
    clear c2
    obtain rfl := Option.some.inj H
    go_enter Try.func68, Try.ntmps68
    go_wp2_with (first | ((with_reducible refine gate_dst (N := 1) rfl ?_); (try (refine gate_guard (by rfl) ?_; dsimp only)); refine box_event ?hg (N := 1) ?hd (cs := #[.slice A0_0 l0_0.length c0_0, .slice A0_1 l0_1.length c0_1]) (t := 92) ?hr ?_; (case hd => rfl); (case hg => rfl); (case hr => first | (go_simp; done) | (go_simp; rfl)); intro gb102 hg w3 hbox hb; have n0_ := Aside0.mk (below_step (by repeat (first | (with_reducible first | exact HB.out | apply below_alloc | apply pw_below_drewN | apply below_drew1) | exact HB.out)) hb); have n1_ := Aside0.mk (hbox); have n2_ := Aside0.mk ((by rw [hg]; exact (below_size (by repeat (first | (with_reducible first | exact HB.out | apply below_alloc | apply pw_below_drewN | apply below_drew1) | exact HB.out))) : w.heap.size ≤ gb102)); have n3_ := Aside0.mk ((by rw [hg]; exact (below_size (by repeat (first | (with_reducible first | exact HB.out | apply below_alloc | apply pw_below_drewN | apply below_drew1) | exact HB.out))) : w.heap.size ≤ gb102)); clear HB; have HB := n0_; have BK102 := n1_; have GW102 := n2_; have GE102 := n3_; clear n0_ n1_ n2_ n3_; clear hb hbox hg; have hcz4_0 : w3.cell? ⟨gb102, 0, none⟩ = some (.slice A0_0 l0_0.length c0_0) := (blk_cell BK102.out 0).trans rfl; have hcz4_1 : w3.cell? ⟨gb102, 1, none⟩ = some (.slice A0_1 l0_1.length c0_1) := (blk_cell BK102.out 1).trans rfl; have hfz4_0 := blk_frozen BK102.out 0; have hfz4_1 := blk_frozen BK102.out 1))
    go_ret
    exact ⟨by first | rfl | (simp [errW_none, errW_some] <;> rfl) | (simp [*, errW_none, errW_some] <;> rfl), by repeat (first | (with_reducible first | exact HB.out | apply below_alloc | apply pw_below_drewN | apply below_drew1 | refine below_set ?_ GE102.out) | exact HB.out)⟩
  · rw [if_neg c2] at H
    have c2b0 : decide (4 < (l0_0.length : Int)) = false := decide_eq_false c2
    have c2b1 : decide (4 < l0_0.length) = false := decide_eq_false (by omega)
    clear c2
    obtain rfl := Option.some.inj H
    go_enter Try.func68, Try.ntmps68
    go_wp2_with (first | ((with_reducible refine gate_dst (N := 1) rfl ?_); (try (refine gate_guard (by rfl) ?_; dsimp only)); refine box_event ?hg (N := 1) ?hd (cs := #[.slice A0_0 l0_0.length c0_0, .slice A0_1 l0_1.length c0_1]) (t := 92) ?hr ?_; (case hd => rfl); (case hg => rfl); (case hr => first | (go_simp; done) | (go_simp; rfl)); intro gb102 hg w5 hbox hb; have n0_ := Aside0.mk (below_step (by repeat (first | (with_reducible first | exact HB.out | apply below_alloc | apply pw_below_drewN | apply below_drew1) | exact HB.out)) hb); have n1_ := Aside0.mk (hbox); have n2_ := Aside0.mk ((by rw [hg]; exact (below_size (by repeat (first | (with_reducible first | exact HB.out | apply below_alloc | apply pw_below_drewN | apply below_drew1) | exact HB.out))) : w.heap.size ≤ gb102)); have n3_ := Aside0.mk ((by rw [hg]; exact (below_size (by repeat (first | (with_reducible first | exact HB.out | apply below_alloc | apply pw_below_drewN | apply below_drew1) | exact HB.out))) : w.heap.size ≤ gb102)); clear HB; have HB := n0_; have BK102 := n1_; have GW102 := n2_; have GE102 := n3_; clear n0_ n1_ n2_ n3_; clear hb hbox hg; have hcz6_0 : w5.cell? ⟨gb102, 0, none⟩ = some (.slice A0_0 l0_0.length c0_0) := (blk_cell BK102.out 0).trans rfl; have hcz6_1 : w5.cell? ⟨gb102, 1, none⟩ = some (.slice A0_1 l0_1.length c0_1) := (blk_cell BK102.out 1).trans rfl; have hfz6_0 := blk_frozen BK102.out 0; have hfz6_1 := blk_frozen BK102.out 1))
    go_ret
    exact ⟨by first | rfl | (simp [errW_none, errW_some] <;> rfl) | (simp [*, errW_none, errW_some] <;> rfl), by repeat (first | (with_reducible first | exact HB.out | apply below_alloc | apply pw_below_drewN | apply below_drew1 | refine below_set ?_ GE102.out) | exact HB.out)⟩

end Go.Proofs.Ytocpcnmnhckcpaa.Prt
namespace Go.Proofs.Ytocpcnmnhckcpaa.Prt
open Go.RowKit Go.Proofs.YtocpcnmnhckcpaaW.PrintWords Go.Proofs.YtocpcnmnhckcpaaW.PrintLast Go.Proofs.YtocpcnmnhckcpaaW.PrintMore
attribute [local go_sem] max2_int min2_int max_two min_two max_three min_three max_four min_four   -- for this text's walks alone
set_option linter.unusedVariables false
set_option linter.unusedSimpArgs false

def query_May_2_1.f (a0 : ByteArray) : Option (Bool) := (name_MayTag.f a0).bind fun t103 => (some (!t103))
set_option maxHeartbeats 8000000 in
set_option maxRecDepth 100000 in
theorem query_May_2_1.calls (a0 : ByteArray) (r : Bool) (w : World) (h : query_May_2_1.f a0 = some r) :
    Calls Try.prog 70 #[.string a0] w fun e w' => e = .returned (.bool r) ∧ Below w.heap.size w w' := by
  have HB := Aside0.mk (Below.refl w.heap.size w)
  have H : ((name_MayTag.f a0).bind fun t103 => (some (!t103))) = some r := h
  clear h
  replace H := Option.bind_eq_some_iff.mp H
  obtain ⟨t103, A20, H⟩ := H
  replace H : (some (!t103)) = some r := H
  have A2 := Aside0.mk A20
  clear A20
  obtain rfl := Option.some.inj H
  go_enter Try.func70, Try.ntmps70
  go_wp2_with (first | ((with_reducible refine gate_callee (f := 65) rfl ?_); refine goesL_ (some 4) rfl rfl Try.func65 (by kernel_rfl) rfl #[.string a0] rfl (by (try simp only [List.map_toArray, List.map_cons, List.map_nil]); first | done | rfl | (simp only [List.length_drop, List.length_take]; rfl)) ?_; (with_reducible refine (name_MayTag.calls a0 t103 _ A2.out).mono ?_); rintro e w3 ⟨rfl, hb⟩; refine ⟨_, rfl, ?_⟩; have n0_ := Aside0.mk (below_step (by repeat (first | (with_reducible first | exact HB.out | apply below_alloc | apply pw_below_drewN | apply below_drew1) | exact HB.out)) hb); clear HB; have HB := n0_; clear n0_; (try clear hb); (try clear hb2); (try clear hk); (try clear hi)))
  go_ret
  exact ⟨by first | rfl | (simp [errW_none, errW_some] <;> rfl) | (simp [*, errW_none, errW_some] <;> rfl), by repeat (first | (with_reducible first | exact HB.out | apply below_alloc | apply pw_below_drewN | apply below_drew1) | exact HB.out)⟩

end Go.Proofs.Ytocpcnmnhckcpaa.Prt
namespace Go.Proofs.Ytocpcnmnhckcpaa.Prt
open Go.RowKit Go.Proofs.YtocpcnmnhckcpaaW.PrintWords Go.Proofs.YtocpcnmnhckcpaaW.PrintLast Go.Proofs.YtocpcnmnhckcpaaW.PrintMore
attribute [local go_sem] max2_int min2_int max_two min_two max_three min_three max_four min_four   -- for this text's walks alone
set_option linter.unusedVariables false
set_option linter.unusedSimpArgs false

def query_May_2_2.f (a0 : ByteArray) : Option (Bool) := (name_May.f a0).bind fun t104 => (some (!t104))
set_option maxHeartbeats 8000000 in
set_option maxRecDepth 100000 in
theorem query_May_2_2.calls (a0 : ByteArray) (r : Bool) (w : World) (h : query_May_2_2.f a0 = some r) :
    Calls Try.prog 71 #[.string a0] w fun e w' => e = .returned (.bool r) ∧ Below w.heap.size w w' := by
  have HB := Aside0.mk (Below.refl w.heap.size w)
  have H : ((name_May.f a0).bind fun t104 => (some (!t104))) = some r := h
  clear h
  replace H := Option.bind_eq_some_iff.mp H
  obtain ⟨t104, A20, H⟩ := H
  replace H : (some (!t104)) = some r := H
  have A2 := Aside0.mk A20
  clear A20
  obtain rfl := Option.some.inj H
  go_enter Try.func71, Try.ntmps71
  go_wp2_with (first | ((with_reducible refine gate_callee (f := 62) rfl ?_); refine goesL_ (some 4) rfl rfl Try.func62 (by kernel_rfl) rfl #[.string a0] rfl (by (try simp only [List.map_toArray, List.map_cons, List.map_nil]); first | done | rfl | (simp only [List.length_drop, List.length_take]; rfl)) ?_; (with_reducible refine (name_May.calls a0 t104 _ A2.out).mono ?_); rintro e w3 ⟨rfl, hb⟩; refine ⟨_, rfl, ?_⟩; have n0_ := Aside0.mk (below_step (by repeat (first | (with_reducible first | exact HB.out | apply below_alloc | apply pw_below_drewN | apply below_drew1) | exact HB.out)) hb); clear HB; have HB := n0_; clear n0_; (try clear hb); (try clear hb2); (try clear hk); (try clear hi)))
  go_ret
  exact ⟨by first | rfl | (simp [errW_none, errW_some] <;> rfl) | (simp [*, errW_none, errW_some] <;> rfl), by repeat (first | (with_reducible first | exact HB.out | apply below_alloc | apply pw_below_drewN | apply below_drew1) | exact HB.out)⟩

end Go.Proofs.Ytocpcnmnhckcpaa.Prt
namespace Go.Proofs.Ytocpcnmnhckcpaa.Prt
open Go.RowKit Go.Proofs.YtocpcnmnhckcpaaW.PrintWords Go.Proofs.YtocpcnmnhckcpaaW.PrintLast Go.Proofs.YtocpcnmnhckcpaaW.PrintMore
attribute [local go_sem] max2_int min2_int max_two min_two max_three min_three max_four min_four   -- for this text's walks alone
set_option linter.unusedVariables false
set_option linter.unusedSimpArgs false

def cmp_isNaN_string.f (a0 : ByteArray) : Option (Bool) := some (a0.toList != a0.toList)
set_option maxHeartbeats 8000000 in
set_option maxRecDepth 100000 in
theorem cmp_isNaN_string.calls (a0 : ByteArray) (r : Bool) (w : World) (h : cmp_isNaN_string.f a0 = some r) :
    Calls Try.prog 94 #[.string a0] w fun e w' => e = .returned (.bool r) ∧ Drawn0 w w' := by
  have H : (some (a0.toList != a0.toList)) = some r := h
  clear h
  obtain rfl := Option.some.inj H
  go_enter Try.func94, Try.ntmps94
  go_wp2
  go_ret
  exact ⟨by first | rfl | (simp; done) | (simp [*]; done), by repeat (first | exact Drawn0.refl _ | apply Drawn0.step)⟩

end Go.Proofs.Ytocpcnmnhckcpaa.Prt
namespace Go.Proofs.Ytocpcnmnhckcpaa.Prt
open Go.RowKit Go.Proofs.YtocpcnmnhckcpaaW.PrintWords Go.Proofs.YtocpcnmnhckcpaaW.PrintLast Go.Proofs.YtocpcnmnhckcpaaW.PrintMore
attribute [local go_sem] max2_int min2_int max_two min_two max_three min_three max_four min_four   -- for this text's walks alone
set_option linter.unusedVariables false
set_option linter.unusedSimpArgs false

def cmp_Less_string.f (a0 : ByteArray) (a1 : ByteArray) : Option (Bool) := (cmp_isNaN_string.f a0).bind fun t105 => (if t105 = true then ((cmp_isNaN_string.f a1).bind fun t106 => (if t106 = true then (some (Op.bytesLess a0.toList a1.toList)) else (some true))) else (some (Op.bytesLess a0.toList a1.toList)))
set_option maxHeartbeats 8000000 in
set_option maxRecDepth 100000 in
theorem cmp_Less_string.calls (a0 : ByteArray) (a1 : ByteArray) (r : Bool) (w : World) (h : cmp_Less_string.f a0 a1 = some r) :
    Calls Try.prog 93 #[.string a0, .string a1] w fun e w' => e = .returned (.bool r) ∧ Drawn0 w w' := by
  have H : ((cmp_isNaN_string.f a0).bind fun t105 => (if t105 = true then ((cmp_isNaN_string.f a1).bind fun t106 => (if t106 = true then (some (Op.bytesLess a0.toList a1.toList)) else (some true))) else (some (Op.bytesLess a0.toList a1.toList)))) = some r := h
  clear h
  replace H := Option.bind_eq_some_iff.mp H
  obtain ⟨t105, A30, H⟩ := H
  replace H : (if t105 = true then ((cmp_isNaN_string.f a1).bind fun t106 => (if t106 = true then (some (Op.bytesLess a0.toList a1.toList)) else (some true))) else (some (Op.bytesLess a0.toList a1.toList))) = some r := H
  have A3 := Aside0.mk A30
  clear A30
  by_cases c4 : t105 = true
  · subst c4
    have H1 : ((cmp_isNaN_string.f a1).bind fun t106 => (if t106 = true then (some (Op.bytesLess a0.toList a1.toList)) else (some true))) = some r := by rw [if_pos rfl] at H; exact H
    clear H
    have H := H1
    clear H1
    replace H := Option.bind_eq_some_iff.mp H
    obtain ⟨t106, A50, H⟩ := H
    replace H : (if t106 = true then (some (Op.bytesLess a0.toList a1.toList)) else (some true)) = some r := H
    have A5 := Aside0.mk A50
    clear A50
    by_cases c6 : t106 = true
    · subst c6
      have H1 : (some (Op.bytesLess a0.toList a1.toList)) = some r := by rw [if_pos rfl] at H; exact H
      clear H
      have H := H1
      clear H1
      obtain rfl := Option.some.inj H
      go_enter Try.func93, Try.ntmps93
      go_wp2_with (first | ((with_reducible refine gate_callee (f := 94) rfl ?_); refine goesL_ (some 6) rfl rfl Try.func94 (by kernel_rfl) rfl #[.string a0] rfl (by (try simp only [List.map_toArray, List.map_cons, List.map_nil]); first | done | rfl | (simp only [List.length_drop, List.length_take]; rfl)) ?_; (with_reducible refine (cmp_isNaN_string.calls a0 true _ A3.out).mono ?_); rintro e w' ⟨rfl, ⟨nd, rfl⟩⟩; refine ⟨_, rfl, ?_⟩) | (go_at_call 94; (with_reducible refine (cmp_isNaN_string.calls a1 true _ A5.out).mono ?_); rintro e w' ⟨rfl, ⟨nd, rfl⟩⟩))
      go_ret
      exact ⟨by first | rfl | (simp; done) | (simp [*]; done), by repeat (first | exact Drawn0.refl _ | apply Drawn0.step)⟩
    · replace c6 := Bool.eq_false_iff.mpr c6
      subst c6
      have H1 : (some true) = some r := by rw [if_neg (show ¬ (false = true) by decide)] at H; exact H
      clear H
      have H := H1
      clear H1
      obtain rfl := Option.some.inj H
      go_enter Try.func93, Try.ntmps93
      go_wp2_with (first | ((with_reducible refine gate_callee (f := 94) rfl ?_); refine goesL_ (some 6) rfl rfl Try.func94 (by kernel_rfl) rfl #[.string a0] rfl (by (try simp only [List.map_toArray, List.map_cons, List.map_nil]); first | done | rfl | (simp only [List.length_drop, List.length_take]; rfl)) ?_; (with_reducible refine (cmp_isNaN_string.calls a0 true _ A3.out).mono ?_); rintro e w' ⟨rfl, ⟨nd, rfl⟩⟩; refine ⟨_, rfl, ?_⟩) | (go_at_call 94; (with_reducible refine (cmp_isNaN_string.calls a1 false _ A5.out).mono ?_); rintro e w' ⟨rfl, ⟨nd, rfl⟩⟩))
      go_ret
      exact ⟨by first | rfl | (simp; done) | (simp [*]; done), by repeat (first | exact Drawn0.refl _ | apply Drawn0.step)⟩
  · replace c4 := Bool.eq_false_iff.mpr c4
    subst c4
    have H1 : (some (Op.bytesLess a0.toList a1.toList)) = some r := by rw [if_neg (show ¬ (false = true) by decide)] at H; exact H
    clear H
    have H := H1
    clear H1
    obtain rfl := Option.some.inj H
    go_enter Try.func93, Try.ntmps93
    go_wp2_with (first | ((with_reducible refine gate_callee (f := 94) rfl ?_); refine goesL_ (some 6) rfl rfl Try.func94 (by kernel_rfl) rfl #[.string a0] rfl (by (try simp only [List.map_toArray, List.map_cons, List.map_nil]); first | done | rfl | (simp only [List.length_drop, List.length_take]; rfl)) ?_; (with_reducible refine (cmp_isNaN_string.calls a0 false _ A3.out).mono ?_); rintro e w' ⟨rfl, ⟨nd, rfl⟩⟩; refine ⟨_, rfl, ?_⟩))
    go_ret
    exact ⟨by first | rfl | (simp; done) | (simp [*]; done), by repeat (first | exact Drawn0.refl _ | apply Drawn0.step)⟩

end Go.Proofs.Ytocpcnmnhckcpaa.Prt

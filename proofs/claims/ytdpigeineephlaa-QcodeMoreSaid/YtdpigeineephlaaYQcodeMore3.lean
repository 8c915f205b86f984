/- What is wrong with a query: the walk of query.May. Functions of the program, told as plain functions, with their walks: written by a program of this claim's out of the translation. What is wrong with a projection: in closed form. qcode.list over projections: its walk. Queries and projections that may be; their bytes. The reference's queries: what is wrong with one, and texts as bytes: in closed form. The reference's queries as bytes, and whether two are the same: in closed form. What is wrong with a projection, as the reference says: in closed form. The reference's projections as bytes: in closed form. Whether two rows of projections are the same: in closed form. Projections as bytes: the walk of qcode.PutDefs. -/
import Derived.Shelf.Abstract
import Derived.Test.YtdpigeineephlaaYQcodeMore1
import Derived.Test.YtdpigeineephlaaYQcodeMore2
namespace Go.Proofs.Ytdpigeineephlaa.Nam
open Go.RowKit Go.Proofs.YtdpigeineephlaaW.PrintWords Go.Proofs.YtdpigeineephlaaW.PrintLast Go.Proofs.YtdpigeineephlaaW.PrintMore Go.Proofs.Ytdpigeineephlaa.Num Go.Proofs.Ytdpigeineephlaa.Prt
set_option linter.unusedVariables false
set_option linter.unusedSimpArgs false

/-- slices.IndexFunc, at a closure. -/
theorem idxStr0 (p : ByteArray → Bool) (G : Nat) (A : Option Addr) (c : Nat) (l : List ByteArray) (w : World) (hC : Kd.C Kd.string w A l.length l)
    (hent : ∀ (xs : Array Value) (W : World), (callFunc G xs).run Try.prog W = .ok (.enter G xs) W)
    (hf : ∀ x ∈ l, ∀ w1, Below w.heap.size w w1 → Calls Try.prog G #[.string x] w1 fun e w2 => e = .returned (.bool (p x)) ∧ Below w1.heap.size w1 w2) :
    Calls Try.prog 71 #[.slice A l.length c, .func (.func G) #[] #[]] w fun e w' => ∃ r : Int, e = .returned (.int .i64 r) ∧ decide (0 ≤ r) = l.any p ∧ Below w.heap.size w w' := by
  have HC := Aside0.mk hC
  have HF := Aside0.mk hf
  have hn := Kd.C_max hC
  clear hC hf
  go_enter Try.func71, Try.ntmps71
  go_wp2
  go_loopg [8] (l.length) (fun k v8 w' => ∃ i : Nat, v8 = .int .i64 (i : Int) ∧ Aside0 (i + k = l.length) ∧ Aside0 ((l.take i).any p = false) ∧ Aside0 (Below w.heap.size w w'))
  case atStart => exact ⟨0, rfl, ⟨by omega⟩, ⟨by simp⟩, ⟨Below.refl _ _⟩⟩
  case round =>
    obtain ⟨i, rfl, HE, HN, HB⟩ := hrel
    by_cases hlt : i < l.length
    · have hb1 : decide ((i : Int) < (l.length : Int)) = true := decide_eq_true (by omega)
      obtain ⟨ad, e_, hx⟩ := Kd.at_string (Kd.C_below HC.out HB.out) (i : Int) (by omega) (by omega)
      cases e_
      rw [Int.toNat_natCast] at hx
      obtain ⟨x, hx0⟩ : ∃ x, x = rdOf ByteArray.empty l (i : Int) := ⟨_, rfl⟩
      rw [← hx0] at hx
      have hxm : x ∈ l := by rw [hx0]; exact getD_mem' hlt _
      have hstep : (l.take (i + 1)).any p = p x := by rw [take_any p l i hlt ByteArray.empty, HN.out, hx0]; rfl
      have HS := Aside0.mk hstep
      have HCALL := Aside0.mk (HF.out x hxm wr HB.out)
      clear hx0 hxm hstep
      cases hp : p x with
      | true =>
        have HP := Aside0.mk hp
        clear hp
        go_wp2_with fail
        refine HCALL.out.mono ?_
        rintro e w2 ⟨rfl, hb2⟩
        rw [HP.out]
        have HB2 := Aside0.mk hb2
        clear hb2
        go_wp2
        go_ret
        refine ⟨_, rfl, ?_, below_step HB.out HB2.out⟩
        rw [any_of_take (HS.out.trans HP.out)]
        exact decide_eq_true (by omega)
      | false =>
        have HP := Aside0.mk hp
        clear hp
        go_wp2_with fail
        refine HCALL.out.mono ?_
        rintro e w2 ⟨rfl, hb2⟩
        rw [HP.out]
        have HB2 := Aside0.mk hb2
        clear hb2
        go_wp2
        go_roundg (l.length - (i + 1))
        case measure => have := HE.out; omega
        case rel => exact ⟨i + 1, by go_num, ⟨by have := HE.out; omega⟩, ⟨HS.out.trans HP.out⟩, ⟨below_step HB.out HB2.out⟩⟩
    · have hb1 : decide ((i : Int) < (l.length : Int)) = false := decide_eq_false (by omega)
      go_wp2
      go_ret
      refine ⟨_, rfl, ?_, HB.out⟩
      have := HN.out
      rw [take_any_all p l i (by omega)] at this
      rw [this]; rfl

theorem contStr0 (p : ByteArray → Bool) (G : Nat) (A : Option Addr) (c : Nat) (l : List ByteArray) (w : World) (hC : Kd.C Kd.string w A l.length l)
    (hent : ∀ (xs : Array Value) (W : World), (callFunc G xs).run Try.prog W = .ok (.enter G xs) W)
    (hf : ∀ x ∈ l, ∀ w1, Below w.heap.size w w1 → Calls Try.prog G #[.string x] w1 fun e w2 => e = .returned (.bool (p x)) ∧ Below w1.heap.size w1 w2) :
    Calls Try.prog 53 #[.slice A l.length c, .func (.func G) #[] #[]] w fun e w' => e = .returned (.bool (l.any p)) ∧ Below w.heap.size w w' := by
  have H := idxStr0 p G  A c l w hC hent hf
  clear hC hent hf
  go_enter Try.func53, Try.ntmps53
  go_wp2_with fail
  refine H.mono ?_
  rintro e w2 ⟨r, rfl, hd, hb⟩
  go_wp2
  go_ret
  exact ⟨by first | rw [hd] | rfl | assumption, hb⟩
/-- slices.IndexFunc, at a closure. -/
theorem idxCla (p : S60 → Bool) (G : Nat) (A : Option Addr) (c : Nat) (l : List S60) (w : World) (hC : Kd.C k60 w A l.length l)
    (hent : ∀ (xs : Array Value) (W : World), (callFunc G xs).run Try.prog W = .ok (.enter G xs) W)
    (hf : ∀ x ∈ l, ∀ w1, Below w.heap.size w w1 → ∀ A0 c0 A1 c1, Kd.C Kd.string w1 A0 x.f0.length x.f0 → x.f0.length ≤ c0 → Kd.C Kd.string w1 A1 x.f1.length x.f1 → x.f1.length ≤ c1 → Calls Try.prog G #[.agg #[.slice A0 x.f0.length c0, .slice A1 x.f1.length c1]] w1 fun e w2 => e = .returned (.bool (p x)) ∧ Below w1.heap.size w1 w2) :
    Calls Try.prog 81 #[.slice A l.length c, .func (.func G) #[] #[]] w fun e w' => ∃ r : Int, e = .returned (.int .i64 r) ∧ decide (0 ≤ r) = l.any p ∧ Below w.heap.size w w' := by
  have HC := Aside0.mk hC
  have HF := Aside0.mk hf
  have hn := Kd.C_max hC
  clear hC hf
  have hu60 := Try.underlying60
  go_enter Try.func81, Try.ntmps81
  go_wp2
  go_loopg [8] (l.length) (fun k v8 w' => ∃ i : Nat, v8 = .int .i64 (i : Int) ∧ Aside0 (i + k = l.length) ∧ Aside0 ((l.take i).any p = false) ∧ Aside0 (Below w.heap.size w w'))
  case atStart => exact ⟨0, rfl, ⟨by omega⟩, ⟨by simp⟩, ⟨Below.refl _ _⟩⟩
  case round =>
    obtain ⟨i, rfl, HE, HN, HB⟩ := hrel
    by_cases hlt : i < l.length
    · have hb1 : decide ((i : Int) < (l.length : Int)) = true := decide_eq_true (by omega)
      obtain ⟨ad, A0, c0, A1, c1, e_, hx, hx1, hl0, hi0, hl1, hi1⟩ := at_T60 (Kd.C_below HC.out HB.out) (i : Int) (by omega) (by omega)
      cases e_
      rw [Int.toNat_natCast] at hx hx1
      obtain ⟨x, hx0⟩ : ∃ x, x = rd_T60 l (i : Int) := ⟨_, rfl⟩
      rw [← hx0] at hx hx1 hl0 hi0 hl1 hi1
      have hxm : x ∈ l := by rw [hx0]; exact getD_mem' hlt _
      have hstep : (l.take (i + 1)).any p = p x := by rw [take_any p l i hlt z60, HN.out, hx0]; rfl
      have HS := Aside0.mk hstep
      have HCALL := Aside0.mk (HF.out x hxm wr HB.out A0 c0 A1 c1 hi0 hl0 hi1 hl1)
      clear hx0 hxm hstep hi0 hl0 hi1 hl1
      cases hp : p x with
      | true =>
        have HP := Aside0.mk hp
        clear hp
        go_wp2_with fail
        refine HCALL.out.mono ?_
        rintro e w2 ⟨rfl, hb2⟩
        rw [HP.out]
        have HB2 := Aside0.mk hb2
        clear hb2
        go_wp2
        go_ret
        refine ⟨_, rfl, ?_, below_step HB.out HB2.out⟩
        rw [any_of_take (HS.out.trans HP.out)]
        exact decide_eq_true (by omega)
      | false =>
        have HP := Aside0.mk hp
        clear hp
        go_wp2_with fail
        refine HCALL.out.mono ?_
        rintro e w2 ⟨rfl, hb2⟩
        rw [HP.out]
        have HB2 := Aside0.mk hb2
        clear hb2
        go_wp2
        go_roundg (l.length - (i + 1))
        case measure => have := HE.out; omega
        case rel => exact ⟨i + 1, by go_num, ⟨by have := HE.out; omega⟩, ⟨HS.out.trans HP.out⟩, ⟨below_step HB.out HB2.out⟩⟩
    · have hb1 : decide ((i : Int) < (l.length : Int)) = false := decide_eq_false (by omega)
      go_wp2
      go_ret
      refine ⟨_, rfl, ?_, HB.out⟩
      have := HN.out
      rw [take_any_all p l i (by omega)] at this
      rw [this]; rfl

theorem contCla (p : S60 → Bool) (G : Nat) (A : Option Addr) (c : Nat) (l : List S60) (w : World) (hC : Kd.C k60 w A l.length l)
    (hent : ∀ (xs : Array Value) (W : World), (callFunc G xs).run Try.prog W = .ok (.enter G xs) W)
    (hf : ∀ x ∈ l, ∀ w1, Below w.heap.size w w1 → ∀ A0 c0 A1 c1, Kd.C Kd.string w1 A0 x.f0.length x.f0 → x.f0.length ≤ c0 → Kd.C Kd.string w1 A1 x.f1.length x.f1 → x.f1.length ≤ c1 → Calls Try.prog G #[.agg #[.slice A0 x.f0.length c0, .slice A1 x.f1.length c1]] w1 fun e w2 => e = .returned (.bool (p x)) ∧ Below w1.heap.size w1 w2) :
    Calls Try.prog 73 #[.slice A l.length c, .func (.func G) #[] #[]] w fun e w' => e = .returned (.bool (l.any p)) ∧ Below w.heap.size w w' := by
  have H := idxCla p G  A c l w hC hent hf
  clear hC hent hf
  go_enter Try.func73, Try.ntmps73
  go_wp2_with fail
  refine H.mono ?_
  rintro e w2 ⟨r, rfl, hd, hb⟩
  go_wp2
  go_ret
  exact ⟨by first | rw [hd] | rfl | assumption, hb⟩
/-- What is asked of a query's clauses. -/
theorem some_calls (p : S60 → Bool) (b : Bool) (G : Nat) (A : Option Addr) (c : Nat) (l : List S60) (w : World) (hp : l.any p = b) (hC : Kd.C k60 w A l.length l)
    (hent : ∀ (xs : Array Value) (W : World), (callFunc G xs).run Try.prog W = .ok (.enter G xs) W)
    (hf : ∀ x ∈ l, ∀ w1, Below w.heap.size w w1 → ∀ A0 c0 A1 c1, Kd.C Kd.string w1 A0 x.f0.length x.f0 → x.f0.length ≤ c0 → Kd.C Kd.string w1 A1 x.f1.length x.f1 → x.f1.length ≤ c1 → Calls Try.prog G #[.agg #[.slice A0 x.f0.length c0, .slice A1 x.f1.length c1]] w1 fun e w2 => e = .returned (.bool (p x)) ∧ Below w1.heap.size w1 w2) :
    Calls Try.prog 57 #[.agg #[.slice A l.length c], .func (.func G) #[] #[]] w fun e w' => e = .returned (.bool b) ∧ Below w.heap.size w w' := by
  subst hp
  have hu25 := Try.underlying25
  have HB := Aside0.mk (Below.refl w.heap.size w)
  have HC := Aside0.mk hC
  have HF := Aside0.mk hf
  clear hC hf
  go_enter Try.func57, Try.ntmps57
  go_wp2_with (first | ((with_reducible refine gate_dst (N := 2) rfl ?_); (try (refine gate_guard (by rfl) ?_; dsimp only)); refine box_event ?hg (N := 2) ?hd (cs := #[.slice A l.length c]) (t := 25) ?hr ?_; (case hd => rfl); (case hg => rfl); (case hr => first | (go_simp; done) | (go_simp; rfl)); intro g hg_ w2 hbox_ hb_; have HBX := Aside0.mk hbox_; have HBN := Aside0.mk hg_; have HBB := Aside0.mk hb_; clear hbox_ hg_ hb_; have hc0 := blk_cell HBX.out 0; have hf0 := blk_frozen HBX.out 0))
  refine (contCla p G A c l w2 (Kd.C_below HC.out HBB.out) hent (fun x hx w1 hb => HF.out x hx w1 (below_step HBB.out hb))).mono ?_
  rintro e w3 ⟨rfl, hb⟩
  have HB3 := Aside0.mk (below_step HBB.out hb)
  clear hb
  go_wp2
  go_ret
  exact ⟨rfl, HB3.out⟩
def bigC (x : S60) : Bool := decide (4 < x.f0.length) || decide (4 < x.f1.length)
def noneC (x : S60) : Bool := (x.f0.any fun s => !tagB s) || (x.f1.any fun s => !mayL (bytesOf s))
def downC (x : S60) : Bool := !riseB x.f0 || !riseB x.f1
/-- What is wrong with a query. -/
def mayQ (l : List S60) : Int := if 4 < l.length ∨ l.any bigC = true then 3 else if l.any noneC = true then 5 else if l.any downC = true then 1 else 0
theorem big_val (x : S60) : query_May_1.f x.f0 x.f1 = some (bigC x) := by
  unfold query_May_1.f bigC
  by_cases h : (x.f0.length : Int) > 4
  · rw [if_pos h, decide_eq_true (show 4 < x.f0.length by omega), Bool.true_or]
  · rw [if_neg h, decide_eq_false (show ¬ 4 < x.f0.length by omega), Bool.false_or]
    congr 1; rw [Bool.eq_iff_iff, decide_eq_true_iff, decide_eq_true_iff]; omega
theorem down_val (x : S60) (h : bigC x = false) : query_May_3.f x.f0 x.f1 = some (downC x) := by
  unfold bigC at h
  rw [Bool.or_eq_false_iff, decide_eq_false_iff_not, decide_eq_false_iff_not] at h
  have m1 : query_rise.f x.f0 = some (riseB x.f0) := if_pos (by omega)
  have m2 : query_rise.f x.f1 = some (riseB x.f1) := if_pos (by omega)
  unfold query_May_3.f downC
  rw [m1, m2]
  simp only [Option.bind_some]
  cases riseB x.f0 <;> rfl
def fitC (x : S60) : Bool := (x.f0.all fun s => decide (s.size ≤ 9223372036854775807)) && (x.f1.all fun s => decide (s.size ≤ 9223372036854775807))
theorem fitC_iff {x : S60} : fitC x = true ↔ (∀ s ∈ x.f0, s.size ≤ 9223372036854775807) ∧ (∀ s ∈ x.f1, s.size ≤ 9223372036854775807) := by
  unfold fitC; simp only [Bool.and_eq_true, List.all_eq_true, decide_eq_true_eq]
theorem none_calls (x : S60) (A0 : Option Addr) (c0 : Nat) (A1 : Option Addr) (c1 : Nat) (w : World) (h0 : Kd.C Kd.string w A0 x.f0.length x.f0) (h1 : Kd.C Kd.string w A1 x.f1.length x.f1) (hf : fitC x = true) :
    Calls Try.prog 52 #[.agg #[.slice A0 x.f0.length c0, .slice A1 x.f1.length c1]] w fun e w' => e = .returned (.bool (noneC x)) ∧ Below w.heap.size w w' := by
  obtain ⟨hz0, hz1⟩ := fitC_iff.1 hf
  have hu60 := Try.underlying60
  have H0 := Aside0.mk h0
  have H1 := Aside0.mk h1
  have Z0 := Aside0.mk hz0
  have Z1 := Aside0.mk hz1
  obtain ⟨b, hb0⟩ : ∃ b, b = noneC x := ⟨_, rfl⟩
  rw [← hb0]
  have HB0 := Aside0.mk hb0
  clear h0 h1 hz0 hz1 hb0 hf
  go_enter Try.func52, Try.ntmps52
  go_wp2_with (first | ((with_reducible refine gate_dst (N := 1) rfl ?_); (try (refine gate_guard (by rfl) ?_; dsimp only)); refine box_event ?hg (N := 1) ?hd (cs := #[.slice A0 x.f0.length c0, .slice A1 x.f1.length c1]) (t := 60) ?hr ?_; (case hd => rfl); (case hg => rfl); (case hr => first | (go_simp; done) | (go_simp; rfl)); intro g hg_ w2 hbox_ hb_; have HBX := Aside0.mk hbox_; have HBN := Aside0.mk hg_; have HBB := Aside0.mk hb_; clear hbox_ hg_ hb_; have hc0 := blk_cell HBX.out 0; have hf0 := blk_frozen HBX.out 0; have hc1 := blk_cell HBX.out 1; have hf1 := blk_frozen HBX.out 1))
  refine (contStr0 (fun s => !tagB s) 54 A0 c0 x.f0 w2 (Kd.C_below H0.out HBB.out) (enters_of Try.func54 (by kernel_rfl) rfl) (fun s hs w1 _ => query_May_2_1.calls s (!tagB s) w1 (by
    have m : name_MayTag.f s = some (tagB s) := if_pos (Z0.out s hs)
    unfold query_May_2_1.f
    rw [m]; rfl))).mono ?_
  rintro e w3 ⟨rfl, hb⟩
  have n1_ := Aside0.mk (blk_below HBX.out hb)
  have n2_ := Aside0.mk (below_step HBB.out hb)
  clear HBX HBB hb hc0 hc1 hf0 hf1
  have hc1 := blk_cell n1_.out 1
  cases h2 : (x.f0.any fun s => !tagB s) with
  | true =>
    have HR := Aside0.mk (show b = true by rw [HB0.out]; unfold noneC; rw [h2]; rfl)
    clear h2
    go_wp2_with fail
    go_ret
    exact ⟨by rw [HR.out]; rfl, n2_.out⟩
  | false =>
    have HR := Aside0.mk (show b = (x.f1.any fun s => !mayL (bytesOf s)) by rw [HB0.out]; unfold noneC; rw [h2]; rfl)
    clear h2
    go_wp2_with fail
    refine (contStr0 (fun s => !mayL (bytesOf s)) 56 A1 c1 x.f1 w3 (Kd.C_below H1.out n2_.out) (enters_of Try.func56 (by kernel_rfl) rfl) (fun s hs w1 _ => query_May_2_2.calls s (!mayL (bytesOf s)) w1 (by
      have m : name_May.f s = some (mayL (bytesOf s)) := if_pos (Z1.out s hs)
      unfold query_May_2_2.f
      rw [m]; rfl))).mono ?_
    rintro e w4 ⟨rfl, hb⟩
    have n3_ := Aside0.mk (below_step n2_.out hb)
    rw [← HR.out]
    clear hb hc1
    go_wp2_with fail
    go_ret
    exact ⟨rfl, n3_.out⟩
theorem queryMay_calls (A : Option Addr) (c : Nat) (l : List S60) (w : World) (hr : Kd.C k60 w A l.length l) (hc : l.length ≤ c) (hf : ∀ x ∈ l, fitC x = true) :
    Calls Try.prog 26 #[.agg #[.slice A l.length c]] w fun e w' => e = .returned (.int .i64 (mayQ l)) ∧ Below w.heap.size w w' := by
  have hu25 := Try.underlying25
  have HR := Aside0.mk hr
  have HF := Aside0.mk hf
  have hm := Kd.C_max hr
  clear hr hc hf
  obtain ⟨E, hE⟩ : ∃ E, E = mayQ l := ⟨_, rfl⟩
  rw [← hE]
  have HE := Aside0.mk hE
  clear hE
  go_enter Try.func26, Try.ntmps26
  by_cases h4 : 4 < l.length
  · have d1 : decide ((4 : Int) < (l.length : Int)) = true := decide_eq_true (by omega)
    have HG := Aside0.mk (HE.out.trans (if_pos (.inl h4)))
    go_wp2_with (first | ((with_reducible refine gate_dst (N := 1) rfl ?_); (try (refine gate_guard (by rfl) ?_; dsimp only)); refine box_event ?hg (N := 1) ?hd (cs := #[.slice A l.length c]) (t := 25) ?hr ?_; (case hd => rfl); (case hg => rfl); (case hr => first | (go_simp; done) | (go_simp; rfl)); intro g hg_ w2 hbox_ hb_; have HBX := Aside0.mk hbox_; have HBN := Aside0.mk hg_; have HBB := Aside0.mk hb_; clear hbox_ hg_ hb_; have hc0 := blk_cell HBX.out 0; have hf0 := blk_frozen HBX.out 0))
    go_ret
    exact ⟨ret_i64 HG.out.symm, HBB.out⟩
  have d1 : decide ((4 : Int) < (l.length : Int)) = false := decide_eq_false (by omega)
  go_wp2_with (first | ((with_reducible refine gate_dst (N := 1) rfl ?_); (try (refine gate_guard (by rfl) ?_; dsimp only)); refine box_event ?hg (N := 1) ?hd (cs := #[.slice A l.length c]) (t := 25) ?hr ?_; (case hd => rfl); (case hg => rfl); (case hr => first | (go_simp; done) | (go_simp; rfl)); intro g hg_ w2 hbox_ hb_; have HBX := Aside0.mk hbox_; have HBN := Aside0.mk hg_; have HBB := Aside0.mk hb_; clear hbox_ hg_ hb_; have hc0 := blk_cell HBX.out 0; have hf0 := blk_frozen HBX.out 0))
  cases h1 : l.any bigC with
  | true =>
    have HG := Aside0.mk (HE.out.trans (if_pos (.inr h1)))
    refine (some_calls bigC true 51 A c l w2 h1 (Kd.C_below HR.out HBB.out) (enters_of Try.func51 (by kernel_rfl) rfl) (fun x hx w1 _ A0 c0 A1 c1 g0 g1 g2 g3 => query_May_1.calls A0 c0 x.f0 A1 c1 x.f1 (bigC x) w1 g0 g1 g2 g3 (big_val x))).mono ?_
    rintro e w3 ⟨rfl, hb⟩
    have n2_ := Aside0.mk (below_step HBB.out hb)
    clear hb h1
    go_wp2_with fail
    go_ret
    exact ⟨ret_i64 HG.out.symm, n2_.out⟩
  | false =>
  have HE2 := Aside0.mk (HE.out.trans (if_neg (by rw [h1]; simp only [Bool.false_eq_true, or_false]; exact h4)))
  have HBIG : Aside0 (∀ x ∈ l, bigC x = false) := ⟨fun x hx => by have := List.any_eq_false.1 h1 x hx; simpa using this⟩
  refine (some_calls bigC false 51 A c l w2 h1 (Kd.C_below HR.out HBB.out) (enters_of Try.func51 (by kernel_rfl) rfl) (fun x hx w1 _ A0 c0 A1 c1 g0 g1 g2 g3 => query_May_1.calls A0 c0 x.f0 A1 c1 x.f1 (bigC x) w1 g0 g1 g2 g3 (big_val x))).mono ?_
  rintro e w3 ⟨rfl, hb⟩
  have n1_ := Aside0.mk (blk_below HBX.out hb)
  have n2_ := Aside0.mk (below_step HBB.out hb)
  clear HBX HBB hb hc0 hf0 h1 HE
  have HBX := n1_
  have HB := n2_
  clear n1_ n2_
  have hc0 := blk_cell HBX.out 0
  go_wp2_with fail
  cases h2 : l.any noneC with
  | true =>
    have HG := Aside0.mk (HE2.out.trans (if_pos h2))
    refine (some_calls noneC true 52 A c l w3 h2 (Kd.C_below HR.out HB.out) (enters_of Try.func52 (by kernel_rfl) rfl) (fun x hx w1 _ A0 c0 A1 c1 g0 g1 g2 g3 => none_calls x A0 c0 A1 c1 w1 g0 g2 (HF.out x hx))).mono ?_
    rintro e w4 ⟨rfl, hb⟩
    have n2_ := Aside0.mk (below_step HB.out hb)
    clear hb h2
    go_wp2_with fail
    go_ret
    exact ⟨ret_i64 HG.out.symm, n2_.out⟩
  | false =>
  have HE3 := Aside0.mk (HE2.out.trans (if_neg (by rw [h2]; simp)))
  refine (some_calls noneC false 52 A c l w3 h2 (Kd.C_below HR.out HB.out) (enters_of Try.func52 (by kernel_rfl) rfl) (fun x hx w1 _ A0 c0 A1 c1 g0 g1 g2 g3 => none_calls x A0 c0 A1 c1 w1 g0 g2 (HF.out x hx))).mono ?_
  rintro e w4 ⟨rfl, hb⟩
  have n1_ := Aside0.mk (blk_below HBX.out hb)
  have n2_ := Aside0.mk (below_step HB.out hb)
  clear HBX HB hb hc0 h2 HE2
  have HBX := n1_
  have HB := n2_
  clear n1_ n2_
  have hc0 := blk_cell HBX.out 0
  go_wp2_with fail
  cases h3 : l.any downC with
  | true =>
    have HG := Aside0.mk (HE3.out.trans (if_pos h3))
    refine (some_calls downC true 58 A c l w4 h3 (Kd.C_below HR.out HB.out) (enters_of Try.func58 (by kernel_rfl) rfl) (fun x hx w1 _ A0 c0 A1 c1 g0 g1 g2 g3 => query_May_3.calls A0 c0 x.f0 A1 c1 x.f1 (downC x) w1 g0 g1 g2 g3 (down_val x (HBIG.out x hx)))).mono ?_
    rintro e w5 ⟨rfl, hb⟩
    have n2_ := Aside0.mk (below_step HB.out hb)
    clear hb h3
    go_wp2_with fail
    go_ret
    exact ⟨ret_i64 HG.out.symm, n2_.out⟩
  | false =>
    have HG := Aside0.mk (HE3.out.trans (if_neg (by rw [h3]; simp)))
    refine (some_calls downC false 58 A c l w4 h3 (Kd.C_below HR.out HB.out) (enters_of Try.func58 (by kernel_rfl) rfl) (fun x hx w1 _ A0 c0 A1 c1 g0 g1 g2 g3 => query_May_3.calls A0 c0 x.f0 A1 c1 x.f1 (downC x) w1 g0 g1 g2 g3 (down_val x (HBIG.out x hx)))).mono ?_
    rintro e w5 ⟨rfl, hb⟩
    have n2_ := Aside0.mk (below_step HB.out hb)
    clear hb h3
    go_wp2_with fail
    go_ret
    exact ⟨ret_i64 HG.out.symm, n2_.out⟩
end Go.Proofs.Ytdpigeineephlaa.Nam
namespace Go.Proofs.Ytdpigeineephlaa.Prt
open Go.RowKit Go.Proofs.YtdpigeineephlaaW.PrintWords Go.Proofs.YtdpigeineephlaaW.PrintLast Go.Proofs.YtdpigeineephlaaW.PrintMore Go.Proofs.Ytdpigeineephlaa.Num Go.Proofs.Ytdpigeineephlaa.Nam
set_option linter.unusedVariables false
set_option linter.unusedSimpArgs false
def query_May.f (l0_0 : List S60) : Option (Int) := if l0_0.all fitC = true then some (mayQ l0_0) else none
theorem query_May.calls (A0_0 : Option Addr) (c0_0 : Nat) (l0_0 : List (S60)) (r : Int) (w : World) (hr0_0 : Kd.C k60 w A0_0 l0_0.length l0_0) (hc0_0 : l0_0.length ≤ c0_0) (h : query_May.f l0_0 = some r) :
    Calls Try.prog 26 #[.agg #[.slice A0_0 l0_0.length c0_0]] w fun e w' => e = .returned (.int .i64 r) ∧ Below w.heap.size w w' := by
  unfold query_May.f at h
  by_cases hc : l0_0.all fitC = true
  · rw [if_pos hc] at h
    obtain rfl := Option.some.inj h
    exact queryMay_calls A0_0 c0_0 l0_0 w hr0_0 hc0_0 (List.all_eq_true.1 hc)
  · rw [if_neg hc] at h; cases h
end Go.Proofs.Ytdpigeineephlaa.Prt
namespace Go.Proofs.Ytdpigeineephlaa.Prt
open Go.RowKit Go.Proofs.YtdpigeineephlaaW.PrintWords Go.Proofs.YtdpigeineephlaaW.PrintLast Go.Proofs.YtdpigeineephlaaW.PrintMore
attribute [local go_sem] max2_int min2_int max_two min_two max_three min_three max_four min_four   -- for this text's walks alone
set_option linter.unusedVariables false
set_option linter.unusedSimpArgs false

mutual
def qcode_MayDef.j0 : Nat → Bool → Int → ByteArray → List (S60) → Option (Int)
  | 0, _, _, _, _ => none
  | k + 1, x11, x214000, x214001, x214002 => if x11 = true then (some 1) else ((query_May.f x214002).bind fun t214 => (if t214 = 0 then (if x214000 = 2 then (qcode_MayDef.j1 k (x214000 == 2) x214000 x214001 x214002) else (qcode_MayDef.j1 k (x214000 == 3) x214000 x214001 x214002)) else (some t214)))
def qcode_MayDef.j1 : Nat → Bool → Int → ByteArray → List (S60) → Option (Int)
  | 0, _, _, _, _ => none
  | k + 1, x23, x214000, x214001, x214002 => if x23 = true then ((name_May.f x214001).bind fun t215 => (if t215 = true then (some 0) else (some 5))) else (if x214001.toList = ([] : List UInt8) then (some 0) else (some 5))
end
def qcode_MayDef.f (k : Nat) (a0_0 : Int) (a0_1 : ByteArray) (l0_2 : List (S60)) : Option (Int) := if a0_0 < 1 then (qcode_MayDef.j0 k true a0_0 a0_1 l0_2) else (qcode_MayDef.j0 k (decide (a0_0 > 4)) a0_0 a0_1 l0_2)
set_option maxHeartbeats 8000000 in
set_option maxRecDepth 100000 in
theorem qcode_MayDef.calls (k : Nat) (a0_0 : Int) (a0_1 : ByteArray) (A0_2 : Option Addr) (c0_2 : Nat) (l0_2 : List (S60)) (r : Int) (w : World) (hr0_2 : Kd.C k60 w A0_2 l0_2.length l0_2) (hc0_2 : l0_2.length ≤ c0_2) (h : qcode_MayDef.f k a0_0 a0_1 l0_2 = some r) :
    Calls Try.prog 16 #[.agg #[.int .i64 a0_0, .string a0_1, .slice A0_2 l0_2.length c0_2]] w fun e w' => e = .returned (.int .i64 r) ∧ Below w.heap.size w w' := by
  have hu36 := Try.underlying36
  have hu25 := Try.underlying25
  have HR0_2 := Aside0.mk hr0_2
  have HC0_2 := Aside0.mk hc0_2
  clear hr0_2 hc0_2
  have HB := Aside0.mk (Below.refl w.heap.size w)
  have H : (if a0_0 < 1 then (qcode_MayDef.j0 k true a0_0 a0_1 l0_2) else (qcode_MayDef.j0 k (decide (a0_0 > 4)) a0_0 a0_1 l0_2)) = some r := h
  clear h
  have HC2 := Aside0.mk H
  clear H
  go_enter Try.func16, Try.ntmps16
  go_upto_region 1 with (first | ((with_reducible refine gate_dst (N := 1) rfl ?_); refine box_event ?hg (N := 1) ?hd (cs := #[.int .i64 a0_0, .string a0_1, .slice A0_2 l0_2.length c0_2]) (t := 36) ?hr ?_; (case hd => rfl); (case hg => rfl); (case hr => first | (go_simp; done) | (go_simp; rfl)); intro gb213 hg w3 hbox hb; have n0_ := Aside0.mk (below_step (by repeat (first | (with_reducible first | exact HB.out | apply below_alloc | apply pw_below_drewN | apply below_drew1) | exact HB.out)) hb); have n1_ := Aside0.mk (hbox); have n2_ := Aside0.mk ((by rw [hg]; exact (below_size (by repeat (first | (with_reducible first | exact HB.out | apply below_alloc | apply pw_below_drewN | apply below_drew1) | exact HB.out))) : w.heap.size ≤ gb213)); have n3_ := Aside0.mk ((by rw [hg]; exact (below_size (by repeat (first | (with_reducible first | exact HB.out | apply below_alloc | apply pw_below_drewN | apply below_drew1) | exact HB.out))) : w.heap.size ≤ gb213)); clear HB; have HB := n0_; have BK213 := n1_; have GW213 := n2_; have GE213 := n3_; clear n0_ n1_ n2_ n3_; clear hb hbox hg))
  (try simp only [Act.put, List.setIfInBounds_toArray, List.set_cons_zero, List.set_cons_succ])
  go_cut [11] (fun v11 wc => ∃ (kq : Nat) (x11_1 : Bool), v11 = .bool x11_1 ∧ Aside0 (qcode_MayDef.j0 kq x11_1 a0_0 a0_1 l0_2 = some r) ∧ Aside0 (kq ≤ k) ∧ Aside0 (wc.heap[gb213]? = some (.cells #[.int .i64 a0_0, .string a0_1, (.slice A0_2 l0_2.length c0_2)] 36 (0, 0))) ∧ Aside0 (Below w.heap.size w wc))
  case first =>
    have H := HC2.out
    clear HC2
    by_cases c4 : a0_0 < 1
    · rw [if_pos c4] at H
      have c4b0 : decide (a0_0 < 1) = true := decide_eq_true c4
      clear c4
      (first | rw [c4b0] | (simp only [i64_w, i32_w]; rw [c4b0]) | skip)
      have H' := Aside0.mk H
      clear H
      have hcz5_0 : w3.cell? ⟨gb213, 0, none⟩ = some (.int .i64 a0_0) := (blk_cell BK213.out 0).trans rfl
      have hcz5_1 : w3.cell? ⟨gb213, 1, none⟩ = some (.string a0_1) := (blk_cell BK213.out 1).trans rfl
      have hcz5_2 : w3.cell? ⟨gb213, 2, none⟩ = some (.slice A0_2 l0_2.length c0_2) := (blk_cell BK213.out 2).trans rfl
      have hfz5_0 := blk_frozen BK213.out 0
      have hfz5_1 := blk_frozen BK213.out 1
      have hfz5_2 := blk_frozen BK213.out 2
      go_wp2
      go_meet
      case rel => exact ⟨_, (true), (by first | rfl | (simp; done) | (simp [*]; done)), H', ⟨by first | omega | exact Nat.le_refl _⟩, ⟨by (with_reducible repeat (first | refine blk_drewN ?_ _ | refine blk_drew ?_ | refine blk_alloc ?_ _)); exact BK213.out⟩, ⟨by repeat (first | (with_reducible first | exact HB.out | apply below_alloc | apply pw_below_drewN | apply below_drew1 | refine below_set ?_ GE213.out) | exact HB.out)⟩⟩
    · rw [if_neg c4] at H
      have c4b0 : decide (a0_0 < 1) = false := decide_eq_false c4
      clear c4
      (first | rw [c4b0] | (simp only [i64_w, i32_w]; rw [c4b0]) | skip)
      have H' := Aside0.mk H
      clear H
      have hcz6_0 : w3.cell? ⟨gb213, 0, none⟩ = some (.int .i64 a0_0) := (blk_cell BK213.out 0).trans rfl
      have hcz6_1 : w3.cell? ⟨gb213, 1, none⟩ = some (.string a0_1) := (blk_cell BK213.out 1).trans rfl
      have hcz6_2 : w3.cell? ⟨gb213, 2, none⟩ = some (.slice A0_2 l0_2.length c0_2) := (blk_cell BK213.out 2).trans rfl
      have hfz6_0 := blk_frozen BK213.out 0
      have hfz6_1 := blk_frozen BK213.out 1
      have hfz6_2 := blk_frozen BK213.out 2
      go_wp2
      go_meet
      case rel => exact ⟨_, (decide (a0_0 > 4)), (by first | rfl | (simp; done) | (simp [*]; done)), H', ⟨by first | omega | exact Nat.le_refl _⟩, ⟨by (with_reducible repeat (first | refine blk_drewN ?_ _ | refine blk_drew ?_ | refine blk_alloc ?_ _)); exact BK213.out⟩, ⟨by repeat (first | (with_reducible first | exact HB.out | apply below_alloc | apply pw_below_drewN | apply below_drew1 | refine below_set ?_ GE213.out) | exact HB.out)⟩⟩
  case rest =>
    clear HC2
    try clear c1
    try clear p2
    try clear c4
    try clear c4b0
    try clear hcz5_0
    try clear hcz5_1
    try clear hcz5_2
    try clear hcz6_0
    try clear hcz6_1
    try clear hcz6_2
    try clear hfz5_0
    try clear hfz5_1
    try clear hfz5_2
    try clear hfz6_0
    try clear hfz6_1
    try clear hfz6_2
    obtain ⟨kq, x11_1, rfl, HA, HJ1, BK213, HB⟩ := hcut
    cases kq with
    | zero => exact absurd HA.out (by simp [qcode_MayDef.j0])
    | succ kj1 =>
      have H := HA.out
      clear HA
      simp only [qcode_MayDef.j0] at H
      by_cases c7 : x11_1 = true
      · subst c7
        have H1 : (some 1) = some r := by rw [if_pos rfl] at H; exact H
        clear H
        have H := H1
        clear H1
        obtain rfl := Option.some.inj H
        go_wp2
        go_ret
        exact ⟨by first | rfl | (simp [errW_none, errW_some] <;> rfl) | (simp [*, errW_none, errW_some] <;> rfl), by repeat (first | (with_reducible first | exact HB.out | apply below_alloc | apply pw_below_drewN | apply below_drew1 | refine below_set ?_ GE213.out) | exact HB.out)⟩
      · replace c7 := Bool.eq_false_iff.mpr c7
        subst c7
        have H1 : ((query_May.f l0_2).bind fun t214 => (if t214 = 0 then (if a0_0 = 2 then (qcode_MayDef.j1 kj1 (a0_0 == 2) a0_0 a0_1 l0_2) else (qcode_MayDef.j1 kj1 (a0_0 == 3) a0_0 a0_1 l0_2)) else (some t214))) = some r := by rw [if_neg (show ¬ (false = true) by decide)] at H; exact H
        clear H
        have H := H1
        clear H1
        replace H := Option.bind_eq_some_iff.mp H
        obtain ⟨t214, A80, H⟩ := H
        replace H : (if t214 = 0 then (if a0_0 = 2 then (qcode_MayDef.j1 kj1 (a0_0 == 2) a0_0 a0_1 l0_2) else (qcode_MayDef.j1 kj1 (a0_0 == 3) a0_0 a0_1 l0_2)) else (some t214)) = some r := H
        have A8 := Aside0.mk A80
        clear A80
        by_cases c9 : t214 = 0
        · rw [if_pos c9] at H
          have c9b0 : (t214 == 0) = true := beq_iff_eq.mpr c9
          have c9b1 : (t214 != 0) = false := bne_eq_false_iff_eq.mpr c9
          clear c9
          have HC10 := Aside0.mk H
          clear H
          have hcz11_0 : wc.cell? ⟨gb213, 0, none⟩ = some (.int .i64 a0_0) := (blk_cell BK213.out 0).trans rfl
          have hcz11_1 : wc.cell? ⟨gb213, 1, none⟩ = some (.string a0_1) := (blk_cell BK213.out 1).trans rfl
          have hcz11_2 : wc.cell? ⟨gb213, 2, none⟩ = some (.slice A0_2 l0_2.length c0_2) := (blk_cell BK213.out 2).trans rfl
          have hfz11_0 := blk_frozen BK213.out 0
          have hfz11_1 := blk_frozen BK213.out 1
          have hfz11_2 := blk_frozen BK213.out 2
          go_upto_if 23 with (first | ((with_reducible refine gate_callee (f := 26) rfl ?_); refine goesL_ (some 14) rfl rfl Try.func26 (by kernel_rfl) rfl #[.agg #[.slice A0_2 l0_2.length c0_2]] rfl (by (try simp only [List.map_toArray, List.map_cons, List.map_nil]); first | done | rfl | (simp only [List.length_drop, List.length_take]; rfl)) ?_; (with_reducible refine (query_May.calls _ _ l0_2 t214 _ ?side1 ?side2 A8.out).mono ?_); (case side1 => repeat (first | exact (Kd.C_below HR0_2.out HB.out) | (with_reducible refine Kd.C_alloc ?_ _) | (with_reducible refine Kd.C_drewN ?_ _) | (with_reducible refine Kd.C_drew ?_))); (case side2 => exact HC0_2.out); rintro e w12 ⟨rfl, hb⟩; refine ⟨_, rfl, ?_⟩; have n0_ := Aside0.mk (blk_below (g := gb213) (o := .cells #[.int .i64 a0_0, .string a0_1, .slice A0_2 l0_2.length c0_2] 36 (0, 0)) (by (with_reducible repeat (first | refine blk_drewN ?_ _ | refine blk_drew ?_ | refine blk_alloc ?_ _)); exact BK213.out) hb); have n1_ := Aside0.mk (below_step (by repeat (first | (with_reducible first | exact HB.out | apply below_alloc | apply pw_below_drewN | apply below_drew1 | refine below_set ?_ GE213.out) | exact HB.out)) hb); clear BK213; clear HB; have BK213 := n0_; have HB := n1_; clear n0_ n1_; (try clear hb); (try clear hb2); (try clear hk); (try clear hi); have hcz13_0 : w12.cell? ⟨gb213, 0, none⟩ = some (.int .i64 a0_0) := (blk_cell BK213.out 0).trans rfl; have hcz13_1 : w12.cell? ⟨gb213, 1, none⟩ = some (.string a0_1) := (blk_cell BK213.out 1).trans rfl; have hcz13_2 : w12.cell? ⟨gb213, 2, none⟩ = some (.slice A0_2 l0_2.length c0_2) := (blk_cell BK213.out 2).trans rfl; have hfz13_0 := blk_frozen BK213.out 0; have hfz13_1 := blk_frozen BK213.out 1; have hfz13_2 := blk_frozen BK213.out 2))
          (try simp only [Act.put, List.setIfInBounds_toArray, List.set_cons_zero, List.set_cons_succ])
          go_cut [23] (fun v23 wc => ∃ (kq : Nat) (x23_9 : Bool), v23 = .bool x23_9 ∧ Aside0 (qcode_MayDef.j1 kq x23_9 a0_0 a0_1 l0_2 = some r) ∧ Aside0 (kq ≤ kj1) ∧ Aside0 (wc.heap[gb213]? = some (.cells #[.int .i64 a0_0, .string a0_1, (.slice A0_2 l0_2.length c0_2)] 36 (0, 0))) ∧ Aside0 (Below w.heap.size w wc))
          case first =>
            have H := HC10.out
            clear HC10
            by_cases c14 : a0_0 = 2
            · rw [if_pos c14] at H
              have c14b0 : (a0_0 == 2) = true := beq_iff_eq.mpr c14
              have c14b1 : (a0_0 != 2) = false := bne_eq_false_iff_eq.mpr c14
              clear c14
              (first | rw [c14b0] | (simp only [i64_w, i32_w]; rw [c14b0]) | skip)
              have H' := Aside0.mk H
              clear H
              go_wp2
              go_meet
              case rel => exact ⟨_, ((a0_0 == 2)), (by first | rfl | (simp; done) | (simp [*]; done)), H', ⟨by have := HJ1.out; first | omega | exact Nat.le_refl _⟩, ⟨by (with_reducible repeat (first | refine blk_drewN ?_ _ | refine blk_drew ?_ | refine blk_alloc ?_ _)); exact BK213.out⟩, ⟨by repeat (first | (with_reducible first | exact HB.out | apply below_alloc | apply pw_below_drewN | apply below_drew1 | refine below_set ?_ GE213.out) | exact HB.out)⟩⟩
            · rw [if_neg c14] at H
              have c14b0 : (a0_0 == 2) = false := beq_eq_false_iff_ne.mpr c14
              have c14b1 : (a0_0 != 2) = true := bne_iff_ne.mpr c14
              (first | rw [c14b0] | (simp only [i64_w, i32_w]; rw [c14b0]) | skip)
              have H' := Aside0.mk H
              clear H
              go_wp2
              go_meet
              case rel => exact ⟨_, ((a0_0 == 3)), (by first | rfl | (simp; done) | (simp [*]; done)), H', ⟨by have := HJ1.out; first | omega | exact Nat.le_refl _⟩, ⟨by (with_reducible repeat (first | refine blk_drewN ?_ _ | refine blk_drew ?_ | refine blk_alloc ?_ _)); exact BK213.out⟩, ⟨by repeat (first | (with_reducible first | exact HB.out | apply below_alloc | apply pw_below_drewN | apply below_drew1 | refine below_set ?_ GE213.out) | exact HB.out)⟩⟩
          case rest =>
            clear HC10
            try clear c1
            try clear c2
            try clear p2
            try clear c4
            try clear c4b0
            try clear c7
            try clear c9
            try clear c9b0
            try clear c9b1
            try clear c14
            try clear c14b0
            try clear c14b1
            try clear hcz11_0
            try clear hcz11_1
            try clear hcz11_2
            try clear hcz13_0
            try clear hcz13_1
            try clear hcz13_2
            try clear hcz5_0
            try clear hcz5_1
            try clear hcz5_2
            try clear hcz6_0
            try clear hcz6_1
            try clear hcz6_2
            try clear hfz11_0
            try clear hfz11_1
            try clear hfz11_2
            try clear hfz13_0
            try clear hfz13_1
            try clear hfz13_2
            try clear hfz5_0
            try clear hfz5_1
            try clear hfz5_2
            try clear hfz6_0
            try clear hfz6_1
            try clear hfz6_2
            try clear p2
            obtain ⟨kq, x23_9, rfl, HA, HJ9, BK213, HB⟩ := hcut
            cases kq with
            | zero => exact absurd HA.out (by simp [qcode_MayDef.j1])
            | succ kj9 =>
              have H := HA.out
              clear HA
              simp only [qcode_MayDef.j1] at H
              by_cases c15 : x23_9 = true
              · subst c15
                have H1 : ((name_May.f a0_1).bind fun t215 => (if t215 = true then (some 0) else (some 5))) = some r := by rw [if_pos rfl] at H; exact H
                clear H
                have H := H1
                clear H1
                replace H := Option.bind_eq_some_iff.mp H
                obtain ⟨t215, A160, H⟩ := H
                replace H : (if t215 = true then (some 0) else (some 5)) = some r := H
                have A16 := Aside0.mk A160
                clear A160
                by_cases c17 : t215 = true
                · subst c17
                  have H1 : (some 0) = some r := by rw [if_pos rfl] at H; exact H
                  clear H
                  have H := H1
                  clear H1
                  obtain rfl := Option.some.inj H
                  have hcz18_0 : wc.cell? ⟨gb213, 0, none⟩ = some (.int .i64 a0_0) := (blk_cell BK213.out 0).trans rfl
                  have hcz18_1 : wc.cell? ⟨gb213, 1, none⟩ = some (.string a0_1) := (blk_cell BK213.out 1).trans rfl
                  have hcz18_2 : wc.cell? ⟨gb213, 2, none⟩ = some (.slice A0_2 l0_2.length c0_2) := (blk_cell BK213.out 2).trans rfl
                  have hfz18_0 := blk_frozen BK213.out 0
                  have hfz18_1 := blk_frozen BK213.out 1
                  have hfz18_2 := blk_frozen BK213.out 2
                  go_wp2_with (first | ((with_reducible refine gate_callee (f := 36) rfl ?_); refine goesL_ (some 28) rfl rfl Try.func36 (by kernel_rfl) rfl #[.string a0_1] rfl (by (try simp only [List.map_toArray, List.map_cons, List.map_nil]); first | done | rfl | (simp only [List.length_drop, List.length_take]; rfl)) ?_; (with_reducible refine (name_May.calls a0_1 true _ A16.out).mono ?_); rintro e w19 ⟨rfl, hb⟩; refine ⟨_, rfl, ?_⟩; have n0_ := Aside0.mk (blk_below (g := gb213) (o := .cells #[.int .i64 a0_0, .string a0_1, .slice A0_2 l0_2.length c0_2] 36 (0, 0)) (by (with_reducible repeat (first | refine blk_drewN ?_ _ | refine blk_drew ?_ | refine blk_alloc ?_ _)); exact BK213.out) hb); have n1_ := Aside0.mk (below_step (by repeat (first | (with_reducible first | exact HB.out | apply below_alloc | apply pw_below_drewN | apply below_drew1 | refine below_set ?_ GE213.out) | exact HB.out)) hb); clear BK213; clear HB; have BK213 := n0_; have HB := n1_; clear n0_ n1_; (try clear hb); (try clear hb2); (try clear hk); (try clear hi)))
                  go_ret
                  exact ⟨by first | rfl | (simp [errW_none, errW_some] <;> rfl) | (simp [*, errW_none, errW_some] <;> rfl), by repeat (first | (with_reducible first | exact HB.out | apply below_alloc | apply pw_below_drewN | apply below_drew1 | refine below_set ?_ GE213.out) | exact HB.out)⟩
                · replace c17 := Bool.eq_false_iff.mpr c17
                  subst c17
                  have H1 : (some 5) = some r := by rw [if_neg (show ¬ (false = true) by decide)] at H; exact H
                  clear H
                  have H := H1
                  clear H1
                  obtain rfl := Option.some.inj H
                  have hcz20_0 : wc.cell? ⟨gb213, 0, none⟩ = some (.int .i64 a0_0) := (blk_cell BK213.out 0).trans rfl
                  have hcz20_1 : wc.cell? ⟨gb213, 1, none⟩ = some (.string a0_1) := (blk_cell BK213.out 1).trans rfl
                  have hcz20_2 : wc.cell? ⟨gb213, 2, none⟩ = some (.slice A0_2 l0_2.length c0_2) := (blk_cell BK213.out 2).trans rfl
                  have hfz20_0 := blk_frozen BK213.out 0
                  have hfz20_1 := blk_frozen BK213.out 1
                  have hfz20_2 := blk_frozen BK213.out 2
                  go_wp2_with (first | ((with_reducible refine gate_callee (f := 36) rfl ?_); refine goesL_ (some 28) rfl rfl Try.func36 (by kernel_rfl) rfl #[.string a0_1] rfl (by (try simp only [List.map_toArray, List.map_cons, List.map_nil]); first | done | rfl | (simp only [List.length_drop, List.length_take]; rfl)) ?_; (with_reducible refine (name_May.calls a0_1 false _ A16.out).mono ?_); rintro e w21 ⟨rfl, hb⟩; refine ⟨_, rfl, ?_⟩; have n0_ := Aside0.mk (blk_below (g := gb213) (o := .cells #[.int .i64 a0_0, .string a0_1, .slice A0_2 l0_2.length c0_2] 36 (0, 0)) (by (with_reducible repeat (first | refine blk_drewN ?_ _ | refine blk_drew ?_ | refine blk_alloc ?_ _)); exact BK213.out) hb); have n1_ := Aside0.mk (below_step (by repeat (first | (with_reducible first | exact HB.out | apply below_alloc | apply pw_below_drewN | apply below_drew1 | refine below_set ?_ GE213.out) | exact HB.out)) hb); clear BK213; clear HB; have BK213 := n0_; have HB := n1_; clear n0_ n1_; (try clear hb); (try clear hb2); (try clear hk); (try clear hi)))
                  go_ret
                  exact ⟨by first | rfl | (simp [errW_none, errW_some] <;> rfl) | (simp [*, errW_none, errW_some] <;> rfl), by repeat (first | (with_reducible first | exact HB.out | apply below_alloc | apply pw_below_drewN | apply below_drew1 | refine below_set ?_ GE213.out) | exact HB.out)⟩
              · replace c15 := Bool.eq_false_iff.mpr c15
                subst c15
                have H1 : (if a0_1.toList = ([] : List UInt8) then (some 0) else (some 5)) = some r := by rw [if_neg (show ¬ (false = true) by decide)] at H; exact H
                clear H
                have H := H1
                clear H1
                by_cases c22 : a0_1.toList = ([] : List UInt8)
                · rw [if_pos c22] at H
                  have c22b0 : (a0_1.toList == ([] : List UInt8)) = true := beq_iff_eq.mpr c22
                  have c22b1 : (a0_1.toList != ([] : List UInt8)) = false := bne_eq_false_iff_eq.mpr c22
                  clear c22
                  obtain rfl := Option.some.inj H
                  have hcz23_0 : wc.cell? ⟨gb213, 0, none⟩ = some (.int .i64 a0_0) := (blk_cell BK213.out 0).trans rfl
                  have hcz23_1 : wc.cell? ⟨gb213, 1, none⟩ = some (.string a0_1) := (blk_cell BK213.out 1).trans rfl
                  have hcz23_2 : wc.cell? ⟨gb213, 2, none⟩ = some (.slice A0_2 l0_2.length c0_2) := (blk_cell BK213.out 2).trans rfl
                  have hfz23_0 := blk_frozen BK213.out 0
                  have hfz23_1 := blk_frozen BK213.out 1
                  have hfz23_2 := blk_frozen BK213.out 2
                  go_wp2
                  go_ret
                  exact ⟨by first | rfl | (simp [errW_none, errW_some] <;> rfl) | (simp [*, errW_none, errW_some] <;> rfl), by repeat (first | (with_reducible first | exact HB.out | apply below_alloc | apply pw_below_drewN | apply below_drew1 | refine below_set ?_ GE213.out) | exact HB.out)⟩
                · rw [if_neg c22] at H
                  have c22b0 : (a0_1.toList == ([] : List UInt8)) = false := beq_eq_false_iff_ne.mpr c22
                  have c22b1 : (a0_1.toList != ([] : List UInt8)) = true := bne_iff_ne.mpr c22
                  obtain rfl := Option.some.inj H
                  have hcz24_0 : wc.cell? ⟨gb213, 0, none⟩ = some (.int .i64 a0_0) := (blk_cell BK213.out 0).trans rfl
                  have hcz24_1 : wc.cell? ⟨gb213, 1, none⟩ = some (.string a0_1) := (blk_cell BK213.out 1).trans rfl
                  have hcz24_2 : wc.cell? ⟨gb213, 2, none⟩ = some (.slice A0_2 l0_2.length c0_2) := (blk_cell BK213.out 2).trans rfl
                  have hfz24_0 := blk_frozen BK213.out 0
                  have hfz24_1 := blk_frozen BK213.out 1
                  have hfz24_2 := blk_frozen BK213.out 2
                  go_wp2
                  go_ret
                  exact ⟨by first | rfl | (simp [errW_none, errW_some] <;> rfl) | (simp [*, errW_none, errW_some] <;> rfl), by repeat (first | (with_reducible first | exact HB.out | apply below_alloc | apply pw_below_drewN | apply below_drew1 | refine below_set ?_ GE213.out) | exact HB.out)⟩
        · rw [if_neg c9] at H
          have c9b0 : (t214 == 0) = false := beq_eq_false_iff_ne.mpr c9
          have c9b1 : (t214 != 0) = true := bne_iff_ne.mpr c9
          obtain rfl := Option.some.inj H
          have hcz25_0 : wc.cell? ⟨gb213, 0, none⟩ = some (.int .i64 a0_0) := (blk_cell BK213.out 0).trans rfl
          have hcz25_1 : wc.cell? ⟨gb213, 1, none⟩ = some (.string a0_1) := (blk_cell BK213.out 1).trans rfl
          have hcz25_2 : wc.cell? ⟨gb213, 2, none⟩ = some (.slice A0_2 l0_2.length c0_2) := (blk_cell BK213.out 2).trans rfl
          have hfz25_0 := blk_frozen BK213.out 0
          have hfz25_1 := blk_frozen BK213.out 1
          have hfz25_2 := blk_frozen BK213.out 2
          go_wp2_with (first | ((with_reducible refine gate_callee (f := 26) rfl ?_); refine goesL_ (some 14) rfl rfl Try.func26 (by kernel_rfl) rfl #[.agg #[.slice A0_2 l0_2.length c0_2]] rfl (by (try simp only [List.map_toArray, List.map_cons, List.map_nil]); first | done | rfl | (simp only [List.length_drop, List.length_take]; rfl)) ?_; (with_reducible refine (query_May.calls _ _ l0_2 t214 _ ?side1 ?side2 A8.out).mono ?_); (case side1 => repeat (first | exact (Kd.C_below HR0_2.out HB.out) | (with_reducible refine Kd.C_alloc ?_ _) | (with_reducible refine Kd.C_drewN ?_ _) | (with_reducible refine Kd.C_drew ?_))); (case side2 => exact HC0_2.out); rintro e w26 ⟨rfl, hb⟩; refine ⟨_, rfl, ?_⟩; have n0_ := Aside0.mk (blk_below (g := gb213) (o := .cells #[.int .i64 a0_0, .string a0_1, .slice A0_2 l0_2.length c0_2] 36 (0, 0)) (by (with_reducible repeat (first | refine blk_drewN ?_ _ | refine blk_drew ?_ | refine blk_alloc ?_ _)); exact BK213.out) hb); have n1_ := Aside0.mk (below_step (by repeat (first | (with_reducible first | exact HB.out | apply below_alloc | apply pw_below_drewN | apply below_drew1 | refine below_set ?_ GE213.out) | exact HB.out)) hb); clear BK213; clear HB; have BK213 := n0_; have HB := n1_; clear n0_ n1_; (try clear hb); (try clear hb2); (try clear hk); (try clear hi)))
          go_ret
          exact ⟨by first | rfl | (simp [errW_none, errW_some] <;> rfl) | (simp [*, errW_none, errW_some] <;> rfl), by repeat (first | (with_reducible first | exact HB.out | apply below_alloc | apply pw_below_drewN | apply below_drew1 | refine below_set ?_ GE213.out) | exact HB.out)⟩

end Go.Proofs.Ytdpigeineephlaa.Prt
namespace Go.Proofs.Ytdpigeineephlaa.Prt
open Go.RowKit Go.Proofs.YtdpigeineephlaaW.PrintWords Go.Proofs.YtdpigeineephlaaW.PrintLast Go.Proofs.YtdpigeineephlaaW.PrintMore Go.Proofs.Ytdpigeineephlaa.Num Go.Proofs.Ytdpigeineephlaa.Nam
set_option linter.unusedVariables false
set_option linter.unusedSimpArgs false

/-- What is wrong with a projection. -/
def mayD (kind : Int) (field : ByteArray) (q : List S60) : Int :=
  if kind < 1 ∨ 4 < kind then 1 else if mayQ q ≠ 0 then mayQ q else if kind = 2 ∨ kind = 3 then (if mayL (bytesOf field) = true then 0 else 5) else if field.toList = [] then 0 else 5
def qcode_MayDefG.f (a0_0 : Int) (a0_1 : ByteArray) (l0_2 : List (S60)) : Option (Int) := if l0_2.all fitC = true ∧ a0_1.size ≤ 9223372036854775807 then some (mayD a0_0 a0_1 l0_2) else none
theorem qcode_MayDefG.val {a0_0 : Int} {a0_1 : ByteArray} {l0_2 : List (S60)} {r : Int} (h : qcode_MayDefG.f a0_0 a0_1 l0_2 = some r) : ∃ k, qcode_MayDef.f k a0_0 a0_1 l0_2 = some r := by
  unfold qcode_MayDefG.f at h
  by_cases hc : l0_2.all fitC = true ∧ a0_1.size ≤ 9223372036854775807
  · rw [if_pos hc] at h
    rw [← h]
    have m1 : query_May.f l0_2 = some (mayQ l0_2) := if_pos hc.1
    have m2 : name_May.f a0_1 = some (mayL (bytesOf a0_1)) := if_pos hc.2
    refine ⟨2, ?_⟩
    unfold qcode_MayDef.f mayD
    by_cases c1 : a0_0 < 1
    · rw [if_pos c1, qcode_MayDef.j0, if_pos rfl, if_pos (.inl c1)]
    rw [if_neg c1]
    by_cases c2 : 4 < a0_0
    · rw [decide_eq_true (show a0_0 > 4 by omega), qcode_MayDef.j0, if_pos rfl, if_pos (.inr c2)]
    rw [decide_eq_false (show ¬ (a0_0 > 4) by omega), qcode_MayDef.j0, if_neg (show ¬ (false = true) by decide), m1, if_neg (show ¬ (a0_0 < 1 ∨ 4 < a0_0) by omega)]
    simp only [Option.bind_some]
    by_cases c3 : mayQ l0_2 = 0
    · rw [if_pos c3, if_neg (show ¬ (mayQ l0_2 ≠ 0) by simpa using c3)]
      by_cases c4 : a0_0 = 2
      · rw [if_pos c4, show (a0_0 == 2) = true from beq_iff_eq.2 c4, qcode_MayDef.j1, if_pos rfl, m2, if_pos (.inl c4)]
        simp only [Option.bind_some]
        cases mayL (bytesOf a0_1) <;> rfl
      · rw [if_neg c4]
        by_cases c5 : a0_0 = 3
        · rw [show (a0_0 == 3) = true from beq_iff_eq.2 c5, qcode_MayDef.j1, if_pos rfl, m2, if_pos (.inr c5)]
          simp only [Option.bind_some]
          cases mayL (bytesOf a0_1) <;> rfl
        · rw [show (a0_0 == 3) = false from beq_eq_false_iff_ne.2 c5, qcode_MayDef.j1, if_neg (show ¬ (false = true) by decide), if_neg (show ¬ (a0_0 = 2 ∨ a0_0 = 3) by omega)]
          by_cases c6 : a0_1.toList = []
          · rw [if_pos c6, if_pos c6]
          · rw [if_neg c6, if_neg c6]
    · rw [if_neg c3, if_pos c3]
  · rw [if_neg hc] at h; cases h
theorem qcode_MayDefG.calls (a0_0 : Int) (a0_1 : ByteArray) (A0_2 : Option Addr) (c0_2 : Nat) (l0_2 : List (S60)) (r : Int) (w : World) (hr0_2 : Kd.C k60 w A0_2 l0_2.length l0_2) (hc0_2 : l0_2.length ≤ c0_2) (h : qcode_MayDefG.f a0_0 a0_1 l0_2 = some r) :
    Calls Try.prog 16 #[.agg #[.int .i64 a0_0, .string a0_1, .slice A0_2 l0_2.length c0_2]] w fun e w' => e = .returned (.int .i64 r) ∧ Below w.heap.size w w' := by
  obtain ⟨k, hk⟩ := qcode_MayDefG.val h
  exact qcode_MayDef.calls k a0_0 a0_1 A0_2 c0_2 l0_2 r w hr0_2 hc0_2 hk
end Go.Proofs.Ytdpigeineephlaa.Prt
namespace Go.Proofs.Ytdpigeineephlaa.Nam
open Go.RowKit Go.Proofs.YtdpigeineephlaaW.PrintWords Go.Proofs.YtdpigeineephlaaW.PrintLast Go.Proofs.YtdpigeineephlaaW.PrintMore Go.Proofs.Ytdpigeineephlaa.Num Go.Proofs.Ytdpigeineephlaa.Prt
set_option linter.unusedVariables false
set_option linter.unusedSimpArgs false

set_option maxRecDepth 100000 in
/-- qcode.list: as many as there are, each by a function. -/
theorem listDef (f : S36 → List Int) (G : Nat) (A0 : Option Addr) (c0 : Nat) (l0 : List Int) (A : Option Addr) (c : Nat) (l : List S36) (w : World) (hr0 : Kd.C (Kd.int .u8) w A0 l0.length l0) (hc0 : l0.length ≤ c0) (hC : Kd.C k36 w A l.length l) (hb : l0.length + ((enc (l.length : Int)).length + (l.flatMap f).length) ≤ 1000000000000)
    (hent : ∀ (xs : Array Value) (W : World), (callFunc G xs).run Try.prog W = .ok (.enter G xs) W)
    (hf : ∀ x ∈ l, ∀ w1, Below w.heap.size w w1 → ∀ A' c' l', Kd.C (Kd.int .u8) w1 A' l'.length l' → l'.length ≤ c' → l'.length + (f x).length ≤ 1000000000000 → ∀ P2 q2, Kd.C k60 w1 P2 x.f2.f0.length x.f2.f0 → x.f2.f0.length ≤ q2 → Calls Try.prog G #[.slice A' l'.length c', .agg #[.int .i64 x.f0, .string x.f1, .slice P2 x.f2.f0.length q2]] w1 fun e w2 => ∃ v, e = .returned v ∧ Kd.R (Kd.int .u8) 5 w2 w1.heap.size (fun _ => True) v (l' ++ f x) ∧ Below w1.heap.size w1 w2) :
    Calls Try.prog 31 #[.slice A0 l0.length c0, .slice A l.length c, .func (.func G) #[] #[]] w fun e w' => ∃ v, e = .returned v ∧ Kd.R (Kd.int .u8) 5 w' w.heap.size (fun _ => True) v (l0 ++ (enc (l.length : Int) ++ l.flatMap f)) ∧ Below w.heap.size w w' := by
  have hm := Kd.C_max hC
  have HC := Aside0.mk hC
  have HF := Aside0.mk hf
  have HP := Aside0.mk (num_Put.calls A0 c0 l0 (l.length : Int) (l0 ++ enc (l.length : Int)) w hr0 hc0 (if_pos ⟨by omega, by omega, by omega⟩))
  have HBD := Aside0.mk hb
  clear hr0 hc0 hC hb hf
  have hu36 := Try.underlying36
  have hu25 := Try.underlying25
  go_enter Try.func31, Try.ntmps31
  go_wp2_with fail
  refine HP.out.mono ?_
  rintro e w1 ⟨v1, rfl, ho, hb⟩
  have HO1 := Aside0.mk (show Kd.R (Kd.int .u8) 5 w1 w.heap.size (fun _ => True) v1 (l0 ++ (enc (l.length : Int) ++ (l.take 0).flatMap f)) by rw [List.take_zero, List.flatMap_nil, List.append_nil]; exact ho)
  have HB1 := Aside0.mk hb
  clear ho hb HP
  go_wp2_with fail
  go_loopg [7, 16] (l.length + 1) (fun k v7 v16 w' => ∃ i : Nat, v16 = .int .i64 (i : Int) ∧ Aside0 (i + k = l.length + 1) ∧ Aside0 (Kd.R (Kd.int .u8) 5 w' w.heap.size (fun _ => True) v7 (l0 ++ (enc (l.length : Int) ++ (l.take i).flatMap f))) ∧ Aside0 (Below w.heap.size w w'))
  case atStart => exact ⟨0, rfl, ⟨by omega⟩, HO1, HB1⟩
  case round =>
    clear HO1 HB1
    obtain ⟨i, rfl, HI, HO, HB⟩ := hrel
    obtain ⟨A7, c7, e7⟩ := Kd.R_slice HO.out
    subst e7
    by_cases hi : i < l.length
    · have d1 : decide ((i : Int) < (l.length : Int)) = true := decide_eq_true (by omega)
      obtain ⟨ad, P2, q2, e_, hx, hx1, hx2, hl2, hi2⟩ := at_T36 (Kd.C_below HC.out HB.out) (i : Int) (by omega) (by omega)
      cases e_
      rw [Int.toNat_natCast] at hx hx1 hx2
      obtain ⟨x, hx0⟩ : ∃ x, x = rd_T36 l (i : Int) := ⟨_, rfl⟩
      rw [← hx0] at hx hx1 hx2 hl2 hi2
      have hxm : x ∈ l := by rw [hx0]; exact getD_mem' hi _
      have hxs : (l.take (i + 1)).flatMap f = (l.take i).flatMap f ++ f x := by
        rw [List.take_succ_eq_append_getElem hi, List.flatMap_append]
        congr 1
        rw [hx0]
        unfold rd_T36
        rw [Int.toNat_natCast, List.getD_eq_getElem?_getD, List.getElem?_eq_getElem hi]; simp
      have hbx : (l0 ++ (enc (l.length : Int) ++ (l.take i).flatMap f)).length + (f x).length ≤ 1000000000000 := by
        have h1 : l.flatMap f = (l.take (i + 1)).flatMap f ++ (l.drop (i + 1)).flatMap f := by rw [← List.flatMap_append, List.take_append_drop]
        have h2 := congrArg List.length h1
        rw [hxs] at h2
        simp only [List.length_append] at h2 ⊢
        have := HBD.out
        omega
      have HXS := Aside0.mk hxs
      have HXM := Aside0.mk hxm
      have HBX := Aside0.mk hbx
      have HIL := Aside0.mk hi
      clear hx0 hxm hxs hbx
      obtain ⟨-, hc7, hC7⟩ := Kd.R_reads' HO.out
      obtain ⟨lx, hlx⟩ : ∃ lx, lx = l0 ++ (enc (l.length : Int) ++ (l.take i).flatMap f) := ⟨_, rfl⟩
      rw [← hlx] at HO HBX hc7 hC7
      have HLX := Aside0.mk hlx
      have HC7 := Aside0.mk hC7
      have HK7 := Aside0.mk hc7
      rw [← hlx]
      clear hlx hC7 hc7
      have HI2 := Aside0.mk hi2
      have HL2 := Aside0.mk hl2
      clear hi2 hl2
      go_upto_region 5 with (first | ((with_reducible refine gate_dst (N := 9) rfl ?_); (try (refine gate_guard (by rfl) ?_; dsimp only)); refine box_event ?hg (N := 9) ?hd (cs := #[.int .i64 0, .string (⟨#[]⟩ : ByteArray), .slice none 0 0]) (t := 36) ?hr ?_; (case hd => rfl); (case hg => rfl); (case hr => first | (go_simp; done) | (go_simp; rfl)); intro B hg_ w2 hbox_ hb_; have HBE := Aside0.mk hbox_; have HBM := Aside0.mk hg_; have HBD := Aside0.mk hb_; clear hbox_ hg_ hb_; have hq0 := blk_cell HBE.out 0; have hz0 := blk_frozen HBE.out 0; have hq1 := blk_cell HBE.out 1; have hz1 := blk_frozen HBE.out 1; have hq2 := blk_cell HBE.out 2; have hz2 := blk_frozen HBE.out 2))
      have HGB := Aside0.mk (show w.heap.size ≤ B ∧ wr.heap.size ≤ B from ⟨by rw [HBM.out]; exact HB.out.size, by rw [HBM.out]; exact Nat.le_refl _⟩)
      have n1_ := Aside0.mk (R_setB (R_setB2 (Kd.R_below HO.out HBD.out) HBE.out (by decide) (.int .i64 x.f0) (.string x.f1)) (blk_set (blk_set HBE.out 0 (.int .i64 x.f0)) 1 (.string x.f1)) (by decide) 2 (.slice P2 x.f2.f0.length q2))
      have n2_ := Aside0.mk ((((below_step HB.out HBD.out).setCell (p := ⟨B, 0, none⟩) HGB.out.1 (.int .i64 x.f0)).setCell (p := ⟨B, 1, none⟩) HGB.out.1 (.string x.f1)).setCell (p := ⟨B, 2, none⟩) HGB.out.1 (.slice P2 x.f2.f0.length q2))
      have n3_ := Aside0.mk (((HBD.out.setCell (p := ⟨B, 0, none⟩) HGB.out.2 (.int .i64 x.f0)).setCell (p := ⟨B, 1, none⟩) HGB.out.2 (.string x.f1)).setCell (p := ⟨B, 2, none⟩) HGB.out.2 (.slice P2 x.f2.f0.length q2))
      have n4_ := Aside0.mk (blk_put (cs' := #[.int .i64 x.f0, .string x.f1, .slice P2 x.f2.f0.length q2]) (blk_put (cs' := #[.int .i64 x.f0, .string x.f1, .slice none 0 0]) (blk_put (cs' := #[.int .i64 x.f0, .string (⟨#[]⟩ : ByteArray), .slice none 0 0]) HBE.out 0 (.int .i64 x.f0) rfl) 1 (.string x.f1) rfl) 2 (.slice P2 x.f2.f0.length q2) rfl)
      clear HBE HBD hq0 hq1 hq2 hz0 hz1 hz2 hx hx1 hx2 HO
      generalize ((w2.setCell ⟨B, 0, none⟩ (.int .i64 x.f0)).setCell ⟨B, 1, none⟩ (.string x.f1)).setCell ⟨B, 2, none⟩ (.slice P2 x.f2.f0.length q2) = w3 at n1_ n2_ n3_ n4_ ⊢
      have HB' := HB
      clear HB
      have HB := n2_
      have HO := n1_
      have hq0 := blk_cell n4_.out 0
      have hq1 := blk_cell n4_.out 1
      have hq2 := blk_cell n4_.out 2
      obtain ⟨-, hc7, hC7⟩ := Kd.R_reads' HO.out
      clear HC7 HK7
      have HC7 := Aside0.mk hC7
      have HK7 := Aside0.mk hc7
      clear hc7 hC7
      go_wp2_with fail
      refine (HF.out x HXM.out _ HB.out A7 c7 lx HC7.out HK7.out HBX.out P2 q2 (Kd.C_below HI2.out n3_.out) HL2.out).mono ?_
      rintro e w4 ⟨v4, rfl, ho, hb⟩
      have HB4 := Aside0.mk (below_step HB.out hb)
      have HO4 := Aside0.mk (Kd.R_lower ho HB.out.size)
      clear ho hb
      go_wp2_with fail
      go_roundg (l.length - i)
      case measure => have := HI.out; omega
      case rel => exact ⟨i + 1, by go_num, ⟨by have := HI.out; omega⟩, ⟨by have h := HO4.out; rw [HLX.out, List.append_assoc, List.append_assoc, ← HXS.out] at h; exact h⟩, HB4⟩
    · have d1 : decide ((i : Int) < (l.length : Int)) = false := decide_eq_false (by omega)
      have HT := Aside0.mk (show l.take i = l from List.take_of_length_le (by omega))
      go_wp2_with fail
      go_ret
      exact ⟨_, rfl, by have h := HO.out; rw [HT.out] at h ⊢; exact h, HB.out⟩

end Go.Proofs.Ytdpigeineephlaa.Nam
namespace Go.Proofs.Ytdpigeineephlaa.Prt
open Go.RowKit Go.Proofs.YtdpigeineephlaaW.PrintWords Go.Proofs.YtdpigeineephlaaW.PrintLast Go.Proofs.YtdpigeineephlaaW.PrintMore Go.Proofs.Ytdpigeineephlaa.Num Go.Proofs.Ytdpigeineephlaa.Nam
set_option linter.unusedVariables false
set_option linter.unusedSimpArgs false

/-- What a clause is in which nothing is wrong. -/
structure OkC (x : S60) : Prop where
  h0 : x.f0.length ≤ 4
  h1 : x.f1.length ≤ 4
  ht : ∀ s ∈ x.f0, tagB s = true
  hn : ∀ s ∈ x.f1, mayL (bytesOf s) = true
  r0 : riseB x.f0 = true
  r1 : riseB x.f1 = true
/-- What a query is in which nothing is wrong. -/
structure OkQ (l : List S60) : Prop where
  h4 : l.length ≤ 4
  hc : ∀ x ∈ l, OkC x
theorem any_no {α : Type} {p : α → Bool} {l : List α} (h : ¬ (l.any p = true)) : ∀ x ∈ l, p x = false := fun x hx => by
  cases hp : p x with
  | false => rfl
  | true => exact absurd (List.any_eq_true.2 ⟨x, hx, hp⟩) h
theorem mayQ_zero {l : List S60} : mayQ l = 0 ↔ OkQ l := by
  unfold mayQ
  constructor
  · intro h
    by_cases c1 : 4 < l.length ∨ l.any bigC = true
    · rw [if_pos c1] at h; cases h
    rw [if_neg c1] at h
    by_cases c2 : l.any noneC = true
    · rw [if_pos c2] at h; cases h
    rw [if_neg c2] at h
    by_cases c3 : l.any downC = true
    · rw [if_pos c3] at h; cases h
    rw [not_or] at c1
    refine ⟨by omega, fun x hx => ?_⟩
    have b1 := any_no c1.2 x hx
    have b2 := any_no c2 x hx
    have b3 := any_no c3 x hx
    unfold bigC at b1
    unfold noneC at b2
    unfold downC at b3
    rw [Bool.or_eq_false_iff] at b1 b2 b3
    rw [decide_eq_false_iff_not, decide_eq_false_iff_not] at b1
    refine ⟨by omega, by omega, fun s hs => ?_, fun s hs => ?_, by simpa using b3.1, by simpa using b3.2⟩
    · have := List.any_eq_false.1 b2.1 s hs; simpa using this
    · have := List.any_eq_false.1 b2.2 s hs; simpa using this
  · rintro ⟨h4, hc⟩
    rw [if_neg ?_, if_neg ?_, if_neg ?_]
    · intro c
      obtain ⟨x, hx, h⟩ := List.any_eq_true.1 c
      unfold downC at h
      rw [(hc x hx).r0, (hc x hx).r1] at h; cases h
    · intro c
      obtain ⟨x, hx, h⟩ := List.any_eq_true.1 c
      unfold noneC at h
      rw [Bool.or_eq_true] at h
      rcases h with h | h
      · obtain ⟨s, hs, h⟩ := List.any_eq_true.1 h
        rw [(hc x hx).ht s hs] at h; cases h
      · obtain ⟨s, hs, h⟩ := List.any_eq_true.1 h
        rw [(hc x hx).hn s hs] at h; cases h
    · rintro (c | c)
      · omega
      · obtain ⟨x, hx, h⟩ := List.any_eq_true.1 c
        unfold bigC at h
        have h0 := (hc x hx).h0
        have h1 := (hc x hx).h1
        rw [decide_eq_false (by omega), decide_eq_false (by omega)] at h; cases h
theorem OkC.fit {x : S60} (h : OkC x) : fitC x = true := fitC_iff.2 ⟨fun s hs => by have := tag_size (h.ht s hs); omega, fun s hs => by have := may_size (h.hn s hs); omega⟩
theorem OkQ.fit {l : List S60} (h : OkQ l) : l.all fitC = true := List.all_eq_true.2 fun x hx => (h.hc x hx).fit
theorem encL_size (l : List ByteArray) (h4 : l.length ≤ 4) (hs : ∀ s ∈ l, s.size ≤ 49) : (encL l).length ≤ 246 := by
  have h1 : ∀ l : List ByteArray, (∀ s ∈ l, s.size ≤ 49) → (encTs l).length ≤ 59 * l.length := by
    intro l
    induction l with
    | nil => intro _; simp [encTs]
    | cons x r ih =>
      intro hs
      have e : encTs (x :: r) = encT (bytesOf x) ++ encTs r := by unfold encTs; rw [List.flatMap_cons]
      have g1 := hs x (by simp)
      have g2 := encT_len x (by omega)
      have g3 := ih (fun z hz => hs z (by simp [hz]))
      rw [e, List.length_append, List.length_cons]; omega
  have h2 := h1 l hs
  have h3 := enc_len (x := (l.length : Int)) ⟨by omega, by omega⟩
  unfold encL
  rw [List.length_append]; omega
theorem encC_size {x : S60} (h : OkC x) : (encC x).length ≤ 492 := by
  have h1 := encL_size x.f0 h.h0 (fun s hs => tag_size (h.ht s hs))
  have h2 := encL_size x.f1 h.h1 (fun s hs => by have := may_size (h.hn s hs); omega)
  unfold encC
  rw [List.length_append]; omega
theorem flat_size {α : Type} {f : α → List Int} {n : Nat} : ∀ l : List α, (∀ x ∈ l, (f x).length ≤ n) → (l.flatMap f).length ≤ n * l.length
  | [], _ => by simp
  | x :: r, h => by
    have h1 := h x (by simp)
    have h2 := flat_size r (fun z hz => h z (by simp [hz]))
    rw [List.flatMap_cons, List.length_append, List.length_cons, Nat.mul_add]; omega
theorem encQ_size {l : List S60} (h : OkQ l) : (encQ l).length ≤ 2000 := by
  have h4 := h.h4
  have h1 := flat_size (f := encC) l (fun x hx => encC_size (h.hc x hx))
  have h3 := enc_len (x := (l.length : Int)) ⟨by omega, by omega⟩
  unfold encQ
  rw [List.length_append]; omega
/-- What is wrong with a projection, and with the first with which something is. -/
def defE (x : S36) : Int := mayD x.f0 x.f1 x.f2.f0
def firstD : List S36 → Int
  | [] => 0
  | x :: r => if defE x = 0 then firstD r else defE x
def fitD (x : S36) : Bool := x.f2.f0.all fitC && decide (x.f1.size ≤ 9223372036854775807)
theorem fitD_iff {x : S36} : fitD x = true ↔ x.f2.f0.all fitC = true ∧ x.f1.size ≤ 9223372036854775807 := by unfold fitD; rw [Bool.and_eq_true, decide_eq_true_iff]
/-- What a projection is in which nothing is wrong. -/
structure OkD (x : S36) : Prop where
  k1 : 1 ≤ x.f0
  k4 : x.f0 ≤ 4
  hq : OkQ x.f2.f0
  hf : x.f0 = 2 ∨ x.f0 = 3 → mayL (bytesOf x.f1) = true
  hn : ¬ (x.f0 = 2 ∨ x.f0 = 3) → x.f1.toList = []
theorem defE_zero {x : S36} : defE x = 0 ↔ OkD x := by
  unfold defE mayD
  constructor
  · intro h
    by_cases c1 : x.f0 < 1 ∨ 4 < x.f0
    · rw [if_pos c1] at h; cases h
    rw [if_neg c1] at h
    by_cases c2 : mayQ x.f2.f0 ≠ 0
    · rw [if_pos c2] at h; exact absurd h c2
    rw [if_neg c2] at h
    refine ⟨by omega, by omega, mayQ_zero.1 (by simpa using c2), fun c => ?_, fun c => ?_⟩
    · rw [if_pos c] at h
      by_cases c4 : mayL (bytesOf x.f1) = true
      · exact c4
      · rw [if_neg c4] at h; cases h
    · rw [if_neg c] at h
      by_cases c4 : x.f1.toList = []
      · exact c4
      · rw [if_neg c4] at h; cases h
  · rintro ⟨k1, k4, hq, hf, hn⟩
    rw [if_neg (by omega), if_neg (by rw [mayQ_zero.2 hq]; simp)]
    by_cases c : x.f0 = 2 ∨ x.f0 = 3
    · rw [if_pos c, if_pos (hf c)]
    · rw [if_neg c, if_pos (hn c)]
theorem firstD_zero {l : List S36} : firstD l = 0 ↔ ∀ x ∈ l, OkD x := by
  induction l with
  | nil => simp [firstD]
  | cons x r ih =>
    rw [firstD]
    by_cases h : defE x = 0
    · rw [if_pos h, ih]
      simp only [List.mem_cons, forall_eq_or_imp]
      exact ⟨fun g => ⟨defE_zero.1 h, g⟩, fun g => g.2⟩
    · rw [if_neg h]
      exact ⟨fun g => absurd g h, fun g => absurd (defE_zero.2 (g x (by simp))) h⟩
theorem empty_size {s : ByteArray} (h : s.toList = []) : s.size = 0 := by
  have h2 : s.toList.length = s.size := by rw [Lib.toList_data]; rfl
  rw [h] at h2; exact h2.symm
theorem OkD.size {x : S36} (h : OkD x) : x.f1.size ≤ 24 := by
  by_cases c : x.f0 = 2 ∨ x.f0 = 3
  · exact may_size (h.hf c)
  · have := empty_size (h.hn c); omega
/-- Projections as bytes. -/
def encD (x : S36) : List Int := enc x.f0 ++ (encT (bytesOf x.f1) ++ encQ x.f2.f0)
def encDs (l : List S36) : List Int := enc (l.length : Int) ++ l.flatMap encD
theorem encD_size {x : S36} (h : OkD x) : (encD x).length ≤ 2100 := by
  have k1 := h.k1
  have k4 := h.k4
  have h1 := enc_len (x := x.f0) ⟨by omega, by omega⟩
  have h2 := encT_len x.f1 (by have := h.size; omega)
  have h3 := encQ_size h.hq
  have h4 := h.size
  unfold encD
  rw [List.length_append, List.length_append]; omega
theorem encDs_size {l : List S36} (h4 : l.length ≤ 4) (h : ∀ x ∈ l, OkD x) : (encDs l).length ≤ 9000 := by
  have h1 := flat_size (f := encD) l (fun x hx => encD_size (h x hx))
  have h3 := enc_len (x := (l.length : Int)) ⟨by omega, by omega⟩
  unfold encDs
  rw [List.length_append]; omega
theorem drop_rdD (l : List S36) (i : Nat) (h : i < l.length) : l.drop i = rd_T36 l (i : Int) :: l.drop (i + 1) := by
  rw [List.drop_eq_getElem_cons h]
  unfold rd_T36
  rw [Int.toNat_natCast, List.getD_eq_getElem?_getD, List.getElem?_eq_getElem h]; rfl
theorem rdD_mem {l : List S36} {i : Nat} (h : i < l.length) : rd_T36 l (i : Int) ∈ l := getD_mem' h _
theorem firstD_yes {l : List S36} {i : Nat} (h : i < l.length) (h0 : defE (rd_T36 l (i : Int)) = 0) : firstD (l.drop i) = firstD (l.drop (i + 1)) := by rw [drop_rdD l i h, firstD, if_pos h0]
theorem firstD_no {l : List S36} {i : Nat} (h : i < l.length) (h0 : defE (rd_T36 l (i : Int)) ≠ 0) : firstD (l.drop i) = defE (rd_T36 l (i : Int)) := by rw [drop_rdD l i h, firstD, if_neg h0]
def putDs (l : List S36) : List Int × Int := if 4 < l.length then ([], 3) else if firstD l ≠ 0 then ([], firstD l) else (encDs l, 0)
end Go.Proofs.Ytdpigeineephlaa.Prt
namespace Go.Proofs.Ytdpigeineephlaa.Prt
open Go.RowKit Go.Proofs.YtdpigeineephlaaW.PrintWords Go.Proofs.YtdpigeineephlaaW.PrintLast Go.Proofs.YtdpigeineephlaaW.PrintMore
attribute [local go_sem] max2_int min2_int max_two min_two max_three min_three max_four min_four   -- for this text's walks alone
set_option linter.unusedVariables false
set_option linter.unusedSimpArgs false

end Go.Proofs.Ytdpigeineephlaa.Prt
namespace Go.Proofs.Ytdpigeineephlaa.Prt
open Go.RowKit Go.Proofs.YtdpigeineephlaaW.PrintWords Go.Proofs.YtdpigeineephlaaW.PrintLast Go.Proofs.YtdpigeineephlaaW.PrintMore
attribute [local go_sem] max2_int min2_int max_two min_two max_three min_three max_four min_four   -- for this text's walks alone
set_option linter.unusedVariables false
set_option linter.unusedSimpArgs false

end Go.Proofs.Ytdpigeineephlaa.Prt
namespace Go.Proofs.Ytdpigeineephlaa.Prt
open Go.RowKit Go.Proofs.YtdpigeineephlaaW.PrintWords Go.Proofs.YtdpigeineephlaaW.PrintLast Go.Proofs.YtdpigeineephlaaW.PrintMore Go.Proofs.Ytdpigeineephlaa.Num Go.Proofs.Ytdpigeineephlaa.Nam
set_option linter.unusedVariables false
set_option linter.unusedSimpArgs false

end Go.Proofs.Ytdpigeineephlaa.Prt
namespace Go.Proofs.Ytdpigeineephlaa.Prt
open Go.RowKit Go.Proofs.YtdpigeineephlaaW.PrintWords Go.Proofs.YtdpigeineephlaaW.PrintLast Go.Proofs.YtdpigeineephlaaW.PrintMore
attribute [local go_sem] max2_int min2_int max_two min_two max_three min_three max_four min_four   -- for this text's walks alone
set_option linter.unusedVariables false
set_option linter.unusedSimpArgs false

end Go.Proofs.Ytdpigeineephlaa.Prt
namespace Go.Proofs.Ytdpigeineephlaa.Prt
open Go.RowKit Go.Proofs.YtdpigeineephlaaW.PrintWords Go.Proofs.YtdpigeineephlaaW.PrintLast Go.Proofs.YtdpigeineephlaaW.PrintMore
attribute [local go_sem] max2_int min2_int max_two min_two max_three min_three max_four min_four   -- for this text's walks alone
set_option linter.unusedVariables false
set_option linter.unusedSimpArgs false

end Go.Proofs.Ytdpigeineephlaa.Prt
namespace Go.Proofs.Ytdpigeineephlaa.Prt
open Go.RowKit Go.Proofs.YtdpigeineephlaaW.PrintWords Go.Proofs.YtdpigeineephlaaW.PrintLast Go.Proofs.YtdpigeineephlaaW.PrintMore Go.Proofs.Ytdpigeineephlaa.Num Go.Proofs.Ytdpigeineephlaa.Nam
set_option linter.unusedVariables false
set_option linter.unusedSimpArgs false

end Go.Proofs.Ytdpigeineephlaa.Prt
namespace Go.Proofs.Ytdpigeineephlaa.Prt
open Go.RowKit Go.Proofs.YtdpigeineephlaaW.PrintWords Go.Proofs.YtdpigeineephlaaW.PrintLast Go.Proofs.YtdpigeineephlaaW.PrintMore
attribute [local go_sem] max2_int min2_int max_two min_two max_three min_three max_four min_four   -- for this text's walks alone
set_option linter.unusedVariables false
set_option linter.unusedSimpArgs false

end Go.Proofs.Ytdpigeineephlaa.Prt
namespace Go.Proofs.Ytdpigeineephlaa.Prt
open Go.RowKit Go.Proofs.YtdpigeineephlaaW.PrintWords Go.Proofs.YtdpigeineephlaaW.PrintLast Go.Proofs.YtdpigeineephlaaW.PrintMore Go.Proofs.Ytdpigeineephlaa.Num Go.Proofs.Ytdpigeineephlaa.Nam
set_option linter.unusedVariables false
set_option linter.unusedSimpArgs false

end Go.Proofs.Ytdpigeineephlaa.Prt
namespace Go.Proofs.Ytdpigeineephlaa.Prt
open Go.RowKit Go.Proofs.YtdpigeineephlaaW.PrintWords Go.Proofs.YtdpigeineephlaaW.PrintLast Go.Proofs.YtdpigeineephlaaW.PrintMore
attribute [local go_sem] max2_int min2_int max_two min_two max_three min_three max_four min_four   -- for this text's walks alone
set_option linter.unusedVariables false
set_option linter.unusedSimpArgs false

end Go.Proofs.Ytdpigeineephlaa.Prt
namespace Go.Proofs.Ytdpigeineephlaa.Prt
open Go.RowKit Go.Proofs.YtdpigeineephlaaW.PrintWords Go.Proofs.YtdpigeineephlaaW.PrintLast Go.Proofs.YtdpigeineephlaaW.PrintMore Go.Proofs.Ytdpigeineephlaa.Num Go.Proofs.Ytdpigeineephlaa.Nam
set_option linter.unusedVariables false
set_option linter.unusedSimpArgs false

end Go.Proofs.Ytdpigeineephlaa.Prt
namespace Go.Proofs.Ytdpigeineephlaa.Prt
open Go.RowKit Go.Proofs.YtdpigeineephlaaW.PrintWords Go.Proofs.YtdpigeineephlaaW.PrintLast Go.Proofs.YtdpigeineephlaaW.PrintMore
attribute [local go_sem] max2_int min2_int max_two min_two max_three min_three max_four min_four   -- for this text's walks alone
set_option linter.unusedVariables false
set_option linter.unusedSimpArgs false

end Go.Proofs.Ytdpigeineephlaa.Prt
namespace Go.Proofs.Ytdpigeineephlaa.Prt
open Go.RowKit Go.Proofs.YtdpigeineephlaaW.PrintWords Go.Proofs.YtdpigeineephlaaW.PrintLast Go.Proofs.YtdpigeineephlaaW.PrintMore Go.Proofs.Ytdpigeineephlaa.Num Go.Proofs.Ytdpigeineephlaa.Nam
set_option linter.unusedVariables false
set_option linter.unusedSimpArgs false

end Go.Proofs.Ytdpigeineephlaa.Prt
namespace Go.Proofs.Ytdpigeineephlaa.Prt
open Go.RowKit Go.Proofs.YtdpigeineephlaaW.PrintWords Go.Proofs.YtdpigeineephlaaW.PrintLast Go.Proofs.YtdpigeineephlaaW.PrintMore
attribute [local go_sem] max2_int min2_int max_two min_two max_three min_three max_four min_four   -- for this text's walks alone
set_option linter.unusedVariables false
set_option linter.unusedSimpArgs false

def qcode_PutDefs_1.f (l0 : List Int) (a1_0 : Int) (a1_1 : ByteArray) (l1_2 : List (S60)) : Option (List Int) := (num_Put.f l0 a1_0).bind fun t113 => ((num_PutText.f t113 a1_1).bind fun t116 => ((qcode_put.f t116 l1_2).bind fun t119 => (some t119)))
def qcode_PutDefs_1.T1 : Bool × List (List Nat × List Nat) := (true, [([], []), ([], []), ([1], [1]), ([0, 2], [0, 2]), ([], []), ([4], [4]), ([3, 5, 3], [3, 5]), ([], []), ([7], [7]), ([6, 8, 6], [6, 8]), ([9, 9, 0, 1, 2, 3, 4, 5, 6, 7, 8, 9], [9])])
def qcode_PutDefs_1.B1 : List Nat := [0, 0, 2, 7, 0, 16, 63, 0, 128, 511, 1023]
theorem qcode_PutDefs_1.tab1 : rtab .any (opsOf Try.f32 1) = qcode_PutDefs_1.T1 := by kernel_rfl
theorem qcode_PutDefs_1.bits1 : waitsOk qcode_PutDefs_1.T1.2 qcode_PutDefs_1.B1 = true := by kernel_rfl
set_option maxHeartbeats 8000000 in
set_option maxRecDepth 100000 in
theorem qcode_PutDefs_1.calls (A0 : Option Addr) (c0 : Nat) (l0 : List Int) (a1_0 : Int) (a1_1 : ByteArray) (A1_2 : Option Addr) (c1_2 : Nat) (l1_2 : List (S60)) (r : List Int) (w : World) (hr0 : Kd.C (Kd.int .u8) w A0 l0.length l0) (hc0 : l0.length ≤ c0) (hr1_2 : Kd.C k60 w A1_2 l1_2.length l1_2) (hc1_2 : l1_2.length ≤ c1_2) (h : qcode_PutDefs_1.f l0 a1_0 a1_1 l1_2 = some r) :
    Calls Try.prog 32 #[.slice A0 l0.length c0, .agg #[.int .i64 a1_0, .string a1_1, .slice A1_2 l1_2.length c1_2]] w fun e w' => ∃ v0_ : Value, e = .returned (v0_) ∧ Kd.R (Kd.int .u8) 5 w' w.heap.size (fun _ => True) v0_ r ∧ Below w.heap.size w w' := by
  have hu36 := Try.underlying36
  have hu25 := Try.underlying25
  have HR0 := Aside0.mk hr0
  have HC0 := Aside0.mk hc0
  clear hr0 hc0
  have HR1_2 := Aside0.mk hr1_2
  have HC1_2 := Aside0.mk hc1_2
  clear hr1_2 hc1_2
  have HB := Aside0.mk (Below.refl w.heap.size w)
  have H : ((num_Put.f l0 a1_0).bind fun t113 => ((num_PutText.f t113 a1_1).bind fun t116 => ((qcode_put.f t116 l1_2).bind fun t119 => (some t119)))) = some r := h
  clear h
  replace H := Option.bind_eq_some_iff.mp H
  obtain ⟨t113, A30, H⟩ := H
  replace H : ((num_PutText.f t113 a1_1).bind fun t116 => ((qcode_put.f t116 l1_2).bind fun t119 => (some t119))) = some r := H
  have A3 := Aside0.mk A30
  clear A30
  replace H := Option.bind_eq_some_iff.mp H
  obtain ⟨t116, A40, H⟩ := H
  replace H : ((qcode_put.f t116 l1_2).bind fun t119 => (some t119)) = some r := H
  have A4 := Aside0.mk A40
  clear A40
  replace H := Option.bind_eq_some_iff.mp H
  obtain ⟨t119, A50, H⟩ := H
  replace H : (some t119) = some r := H
  have A5 := Aside0.mk A50
  clear A50
  obtain rfl := Option.some.inj H
  go_enter Try.func32, Try.ntmps32
  try go_wp2_with (first | ((with_reducible refine gate_dst (N := 3) rfl ?_); refine box_event ?hg (N := 3) ?hd (cs := #[.int .i64 a1_0, .string a1_1, .slice A1_2 l1_2.length c1_2]) (t := 36) ?hr ?_; (case hd => rfl); (case hg => rfl); (case hr => first | (go_simp; done) | (go_simp; rfl)); intro gb112 hg w6 hbox hb; have n0_ := Aside0.mk (below_step (by repeat (first | (with_reducible first | exact HB.out | apply below_alloc | apply pw_below_drewN | apply below_drew1) | exact HB.out)) hb); have n1_ := Aside0.mk (hbox); have n2_ := Aside0.mk ((by rw [hg]; exact (below_size (by repeat (first | (with_reducible first | exact HB.out | apply below_alloc | apply pw_below_drewN | apply below_drew1) | exact HB.out))) : w.heap.size ≤ gb112)); have n3_ := Aside0.mk ((by rw [hg]; exact (below_size (by repeat (first | (with_reducible first | exact HB.out | apply below_alloc | apply pw_below_drewN | apply below_drew1) | exact HB.out))) : w.heap.size ≤ gb112)); clear HB; have HB := n0_; have BK112 := n1_; have GW112 := n2_; have GE112 := n3_; clear n0_ n1_ n2_ n3_; clear hb hbox hg))
  have n0_ := Aside0.mk (blk_drew BK112.out)
  have n1_ := Aside0.mk (below_drew1 HB.out)
  clear BK112
  clear HB
  have BK112 := n0_
  have HB := n1_
  clear n0_ n1_
  refine start_ (n := 11) (S := fun w' => w'.cell? ⟨gb112, 0, none⟩ = some (.int .i64 a1_0) ∧ w'.cell? ⟨gb112, 1, none⟩ = some (.string a1_1) ∧ w'.cell? ⟨gb112, 2, none⟩ = some (.slice A1_2 l1_2.length c1_2)) (ds := []) #[false, false, false, false, false, false, false, false, false, false, false] (by kernel_rfl) rfl rfl ⟨(blk_cell BK112.out 0).trans rfl, (blk_cell BK112.out 1).trans rfl, (blk_cell BK112.out 2).trans rfl⟩ (fun hHeld => ?_); refine with_tabW qcode_PutDefs_1.tab1 qcode_PutDefs_1.bits1 (fun HT_ HW_ => ?_)
  generalize w6.drew = w7 at BK112 HB hHeld ⊢
  refine pure_ (i := 0) (N := some 5) (v := ?_) (a' := ?_) #[true, false, false, false, false, false, false, false, false, false, false] rfl rfl (any_of HT_.out (by kernel_rfl)) (fun _ _ _ h => h) (Or.inl ⟨by rfl, ?_⟩) ?_ ?_
  rotate_left
  · intro w'
    go_simp
    with_reducible rfl
  rotate_left
  · simp only [Act.put, List.setIfInBounds_toArray, List.set_cons_zero, List.set_cons_succ, i64_w, i32_w]
    rfl
  refine pure_ (i := 1) (N := some 6) (v := ?_) (a' := ?_) #[true, true, false, false, false, false, false, false, false, false, false] rfl rfl (any_of HT_.out (by kernel_rfl)) (fun _ _ _ h => h) (Or.inl ⟨by rfl, ?_⟩) ?_ ?_
  rotate_left
  · intro w'
    go_simp
    with_reducible rfl
  rotate_left
  · simp only [Act.put, List.setIfInBounds_toArray, List.set_cons_zero, List.set_cons_succ, i64_w, i32_w]
    rfl
  refine pure_ (i := 4) (N := some 9) (v := ?_) (a' := ?_) #[true, true, false, false, true, false, false, false, false, false, false] rfl rfl (any_of HT_.out (by kernel_rfl)) (fun _ _ _ h => h) (Or.inl ⟨by rfl, ?_⟩) ?_ ?_
  rotate_left
  · intro w'
    go_simp
    with_reducible rfl
  rotate_left
  · simp only [Act.put, List.setIfInBounds_toArray, List.set_cons_zero, List.set_cons_succ, i64_w, i32_w]
    rfl
  refine pure_ (i := 7) (N := some 12) (v := ?_) (a' := ?_) #[true, true, false, false, true, false, false, true, false, false, false] rfl rfl (any_of HT_.out (by kernel_rfl)) (fun _ _ _ h => h) (Or.inl ⟨by rfl, ?_⟩) ?_ ?_
  rotate_left
  · intro w'
    go_simp
    with_reducible rfl
  rotate_left
  · simp only [Act.put, List.setIfInBounds_toArray, List.set_cons_zero, List.set_cons_succ, i64_w, i32_w]
    rfl
  refine take_ (i := 2) (N := some 7) (v := ?_) (a' := ?_) #[true, true, true, false, true, false, false, true, false, false, false] rfl rfl (take_ofW HT_.out HW_.out (by kernel_rfl)) (fun _ _ _ h => h) (Or.inl ⟨by rfl, ?_⟩) hHeld ?_ ?_
  rotate_left
  · rintro w' ⟨s0, s1, s2⟩
    go_simp
    with_reducible rfl
  rotate_left
  · simp only [Act.put, List.setIfInBounds_toArray, List.set_cons_zero, List.set_cons_succ, i64_w, i32_w]
    rfl
  refine take_ (i := 5) (N := some 10) (v := ?_) (a' := ?_) #[true, true, true, false, true, true, false, true, false, false, false] rfl rfl (take_ofW HT_.out HW_.out (by kernel_rfl)) (fun _ _ _ h => h) (Or.inl ⟨by rfl, ?_⟩) hHeld ?_ ?_
  rotate_left
  · rintro w' ⟨s0, s1, s2⟩
    go_simp
    with_reducible rfl
  rotate_left
  · simp only [Act.put, List.setIfInBounds_toArray, List.set_cons_zero, List.set_cons_succ, i64_w, i32_w]
    rfl
  refine take_ (i := 8) (N := some 13) (v := ?_) (a' := ?_) #[true, true, true, false, true, true, false, true, true, false, false] rfl rfl (take_ofW HT_.out HW_.out (by kernel_rfl)) (fun _ _ _ h => h) (Or.inl ⟨by rfl, ?_⟩) hHeld ?_ ?_
  rotate_left
  · rintro w' ⟨s0, s1, s2⟩
    go_simp
    with_reducible rfl
  rotate_left
  · simp only [Act.put, List.setIfInBounds_toArray, List.set_cons_zero, List.set_cons_succ, i64_w, i32_w]
    rfl
  refine one_ (i := 3) (N := some 8) #[true, true, true, true, true, true, false, true, true, false, false] rfl rfl (one_of HT_.out (by kernel_rfl)) (by decide) (fun K hK => ?_)
  refine goes_ Try.func34 (by kernel_rfl) rfl #[.slice A0 l0.length c0, .int .i64 a1_0] (by rfl) rfl rfl (by (try simp only [List.map_toArray, List.map_cons, List.map_nil]); first | done | rfl | (simp only [List.length_drop, List.length_take]; rfl)) ?_
  with_reducible refine (num_Put.calls _ _ l0 a1_0 t113 _ ?side1 ?side2 A3.out).mono ?_
  (case side1 => repeat (first | exact (Kd.C_below HR0.out HB.out) | (with_reducible refine Kd.C_alloc ?_ _) | (with_reducible refine Kd.C_drewN ?_ _) | (with_reducible refine Kd.C_drew ?_)))
  (case side2 => exact HC0.out)
  rintro e w8 ⟨v114, rfl, ho0, hb⟩
  refine ⟨_, rfl, ?_⟩
  have n0_ := Aside0.mk (Kd.R_lower ho0 (below_size (by repeat (first | (with_reducible first | exact HB.out | apply below_alloc | apply pw_below_drewN | apply below_drew1 | refine below_set ?_ GE112.out) | exact HB.out))))
  have n1_ := Aside0.mk (blk_below (g := gb112) (o := .cells #[.int .i64 a1_0, .string a1_1, .slice A1_2 l1_2.length c1_2] 36 (0, 0)) (by (with_reducible repeat (first | refine blk_drewN ?_ _ | refine blk_drew ?_ | refine blk_alloc ?_ _)); exact BK112.out) hb)
  have n2_ := Aside0.mk (below_step (by repeat (first | (with_reducible first | exact HB.out | apply below_alloc | apply pw_below_drewN | apply below_drew1 | refine below_set ?_ GE112.out) | exact HB.out)) hb)
  clear BK112
  clear HB
  have HO115 := n0_
  have BK112 := n1_
  have HB := n2_
  clear n0_ n1_ n2_
  (try clear hb)
  (try clear hb2)
  (try clear hk)
  (try clear hi)
  (try clear ho0)
  obtain ⟨Ao9, co9, eo9⟩ := Kd.R_slice HO115.out
  (first | subst eo9 | (injection eo9 with f1_ f2_ f3_; have f4_ := f1_.symm; have f5_ := f3_.symm; clear f1_ f2_ f3_; subst f4_; subst f5_))
  refine hK.out _ _ ⟨(blk_cell BK112.out 0).trans rfl, (blk_cell BK112.out 1).trans rfl, (blk_cell BK112.out 2).trans rfl⟩ (fun hHeld => ?_)
  clear hK K
  refine norm_ (a' := ?_) ?_ ?_
  rotate_left
  · show Act.put _ (some 8) _ = _
    simp only [Act.put, List.setIfInBounds_toArray, List.set_cons_zero, List.set_cons_succ, i64_w, i32_w]
    rfl
  refine one_ (i := 6) (N := some 11) #[true, true, true, true, true, true, true, true, true, false, false] rfl rfl (one_of HT_.out (by kernel_rfl)) (by decide) (fun K hK => ?_)
  refine goes_ Try.func33 (by kernel_rfl) rfl #[.slice Ao9 t113.length co9, .string a1_1] (by rfl) rfl rfl (by (try simp only [List.map_toArray, List.map_cons, List.map_nil]); first | done | rfl | (simp only [List.length_drop, List.length_take]; rfl)) ?_
  with_reducible refine (num_PutText.calls _ _ t113 a1_1 t116 _ ?side1 ?side2 A4.out).mono ?_
  (case side1 => repeat (first | exact (Kd.R_reads' HO115.out).2.2 | (with_reducible refine Kd.C_alloc ?_ _) | (with_reducible refine Kd.C_drewN ?_ _) | (with_reducible refine Kd.C_drew ?_)))
  (case side2 => exact (Kd.R_reads' HO115.out).2.1)
  rintro e w10 ⟨v117, rfl, ho0, hb⟩
  refine ⟨_, rfl, ?_⟩
  have n0_ := Aside0.mk (Kd.R_elder' (by (with_reducible repeat (first | apply Kd.R_alloc | apply Kd.R_drewN | apply Kd.R_drew)); exact HO115.out) (Kd.R_base ho0) hb)
  have n1_ := Aside0.mk (Kd.R_lower (Kd.R_new' ho0 (Kd.R_lt (by (with_reducible repeat (first | apply Kd.R_alloc | apply Kd.R_drewN | apply Kd.R_drew)); exact HO115.out))) (below_size (by repeat (first | (with_reducible first | exact HB.out | apply below_alloc | apply pw_below_drewN | apply below_drew1 | refine below_set ?_ GE112.out) | exact HB.out))))
  have n2_ := Aside0.mk (blk_below (g := gb112) (o := .cells #[.int .i64 a1_0, .string a1_1, .slice A1_2 l1_2.length c1_2] 36 (0, 0)) (by (with_reducible repeat (first | refine blk_drewN ?_ _ | refine blk_drew ?_ | refine blk_alloc ?_ _)); exact BK112.out) hb)
  have n3_ := Aside0.mk (below_step (by repeat (first | (with_reducible first | exact HB.out | apply below_alloc | apply pw_below_drewN | apply below_drew1 | refine below_set ?_ GE112.out) | exact HB.out)) hb)
  clear HO115
  clear BK112
  clear HB
  have HO115 := n0_
  have HO118 := n1_
  have BK112 := n2_
  have HB := n3_
  clear n0_ n1_ n2_ n3_
  (try clear hb)
  (try clear hb2)
  (try clear hk)
  (try clear hi)
  (try clear ho0)
  obtain ⟨Ao11, co11, eo11⟩ := Kd.R_slice HO118.out
  (first | subst eo11 | (injection eo11 with f1_ f2_ f3_; have f4_ := f1_.symm; have f5_ := f3_.symm; clear f1_ f2_ f3_; subst f4_; subst f5_))
  refine hK.out _ _ ⟨(blk_cell BK112.out 0).trans rfl, (blk_cell BK112.out 1).trans rfl, (blk_cell BK112.out 2).trans rfl⟩ (fun hHeld => ?_)
  clear hK K
  refine norm_ (a' := ?_) ?_ ?_
  rotate_left
  · show Act.put _ (some 11) _ = _
    simp only [Act.put, List.setIfInBounds_toArray, List.set_cons_zero, List.set_cons_succ, i64_w, i32_w]
    rfl
  refine one_ (i := 9) (N := some 14) #[true, true, true, true, true, true, true, true, true, true, false] rfl rfl (one_of HT_.out (by kernel_rfl)) (by decide) (fun K hK => ?_)
  refine goes_ Try.func27 (by kernel_rfl) rfl #[.slice Ao11 t116.length co11, .agg #[.slice A1_2 l1_2.length c1_2]] (by rfl) rfl rfl (by (try simp only [List.map_toArray, List.map_cons, List.map_nil]); first | done | rfl | (simp only [List.length_drop, List.length_take]; rfl)) ?_
  with_reducible refine (qcode_put.calls _ _ t116 _ _ l1_2 t119 _ ?side1 ?side2 ?side3 ?side4 A5.out).mono ?_
  (case side1 => repeat (first | exact (Kd.R_reads' HO118.out).2.2 | (with_reducible refine Kd.C_alloc ?_ _) | (with_reducible refine Kd.C_drewN ?_ _) | (with_reducible refine Kd.C_drew ?_)))
  (case side2 => exact (Kd.R_reads' HO118.out).2.1)
  (case side3 => repeat (first | exact (Kd.C_below HR1_2.out HB.out) | (with_reducible refine Kd.C_alloc ?_ _) | (with_reducible refine Kd.C_drewN ?_ _) | (with_reducible refine Kd.C_drew ?_)))
  (case side4 => exact HC1_2.out)
  rintro e w12 ⟨v120, rfl, ho0, hb⟩
  refine ⟨_, rfl, ?_⟩
  have n0_ := Aside0.mk (Kd.R_elder' (by (with_reducible repeat (first | apply Kd.R_alloc | apply Kd.R_drewN | apply Kd.R_drew)); exact HO115.out) (Kd.R_base ho0) hb)
  have n1_ := Aside0.mk (Kd.R_elder' (by (with_reducible repeat (first | apply Kd.R_alloc | apply Kd.R_drewN | apply Kd.R_drew)); exact HO118.out) (Kd.R_base ho0) hb)
  have n2_ := Aside0.mk (Kd.R_lower (Kd.R_new' (Kd.R_new' ho0 (Kd.R_lt (by (with_reducible repeat (first | apply Kd.R_alloc | apply Kd.R_drewN | apply Kd.R_drew)); exact HO115.out))) (Kd.R_lt (by (with_reducible repeat (first | apply Kd.R_alloc | apply Kd.R_drewN | apply Kd.R_drew)); exact HO118.out))) (below_size (by repeat (first | (with_reducible first | exact HB.out | apply below_alloc | apply pw_below_drewN | apply below_drew1 | refine below_set ?_ GE112.out) | exact HB.out))))
  have n3_ := Aside0.mk (blk_below (g := gb112) (o := .cells #[.int .i64 a1_0, .string a1_1, .slice A1_2 l1_2.length c1_2] 36 (0, 0)) (by (with_reducible repeat (first | refine blk_drewN ?_ _ | refine blk_drew ?_ | refine blk_alloc ?_ _)); exact BK112.out) hb)
  have n4_ := Aside0.mk (below_step (by repeat (first | (with_reducible first | exact HB.out | apply below_alloc | apply pw_below_drewN | apply below_drew1 | refine below_set ?_ GE112.out) | exact HB.out)) hb)
  clear HO115
  clear HO118
  clear BK112
  clear HB
  have HO115 := n0_
  have HO118 := n1_
  have HO121 := n2_
  have BK112 := n3_
  have HB := n4_
  clear n0_ n1_ n2_ n3_ n4_
  (try clear hb)
  (try clear hb2)
  (try clear hk)
  (try clear hi)
  (try clear ho0)
  refine hK.out _ _ ⟨(blk_cell BK112.out 0).trans rfl, (blk_cell BK112.out 1).trans rfl, (blk_cell BK112.out 2).trans rfl⟩ (fun hHeld => ?_)
  clear hK K
  refine norm_ (a' := ?_) ?_ ?_
  rotate_left
  · show Act.put _ (some 14) _ = _
    simp only [Act.put, List.setIfInBounds_toArray, List.set_cons_zero, List.set_cons_succ, i64_w, i32_w]
    rfl
  refine pure_ (i := 10) (N := some 4) (v := ?_) (a' := ?_) #[true, true, true, true, true, true, true, true, true, true, true] rfl rfl (any_of HT_.out (by kernel_rfl)) (fun _ _ _ h => h) (Or.inl ⟨by rfl, ?_⟩) ?_ ?_
  rotate_left
  · intro w'
    go_simp
    with_reducible rfl
  rotate_left
  · simp only [Act.put, List.setIfInBounds_toArray, List.set_cons_zero, List.set_cons_succ, i64_w, i32_w]
    rfl
  refine done_ (done_of HT_.out (by kernel_rfl)) ?_
  try go_wp2
  go_ret
  exact ⟨_, by first | rfl | (simp [errW_none, errW_some] <;> rfl) | (simp [*, errW_none, errW_some] <;> rfl), by (with_reducible repeat (first | apply Kd.R_alloc | apply Kd.R_drewN | apply Kd.R_drew)); exact Kd.R_mono HO121.out (fun _ hk => trivial), by repeat (first | (with_reducible first | exact HB.out | apply below_alloc | apply pw_below_drewN | apply below_drew1 | refine below_set ?_ GE112.out) | exact HB.out)⟩

end Go.Proofs.Ytdpigeineephlaa.Prt
namespace Go.Proofs.Ytdpigeineephlaa.Nam
open Go.RowKit Go.Proofs.YtdpigeineephlaaW.PrintWords Go.Proofs.YtdpigeineephlaaW.PrintLast Go.Proofs.YtdpigeineephlaaW.PrintMore Go.Proofs.Ytdpigeineephlaa.Num Go.Proofs.Ytdpigeineephlaa.Prt
set_option linter.unusedVariables false
set_option linter.unusedSimpArgs false

theorem def_val {l : List Int} {x : S36} (h : OkD x) (hl : l.length + (encD x).length ≤ 1000000000000) : qcode_PutDefs_1.f l x.f0 x.f1 x.f2.f0 = some (l ++ encD x) := by
  have k1 := h.k1
  have k4 := h.k4
  have hs := h.size
  unfold encD at hl ⊢
  rw [List.length_append, List.length_append] at hl
  have m1 : num_Put.f l x.f0 = some (l ++ enc x.f0) := if_pos ⟨by omega, by omega, by omega⟩
  have m2 : num_PutText.f (l ++ enc x.f0) x.f1 = some ((l ++ enc x.f0) ++ encT (bytesOf x.f1)) := if_pos (by rw [List.length_append]; omega)
  have m3 : qcode_put.f ((l ++ enc x.f0) ++ encT (bytesOf x.f1)) x.f2.f0 = some (((l ++ enc x.f0) ++ encT (bytesOf x.f1)) ++ encQ x.f2.f0) := if_pos (by rw [List.length_append, List.length_append]; omega)
  unfold qcode_PutDefs_1.f
  rw [m1]
  simp only [Option.bind_some]
  rw [m2]
  simp only [Option.bind_some]
  rw [m3]
  simp only [Option.bind_some, List.append_assoc]
set_option maxRecDepth 100000 in
theorem putDefs_calls (A : Option Addr) (c : Nat) (l : List S36) (w : World) (hr : Kd.C k36 w A l.length l) (hc : l.length ≤ c) (hf : ∀ x ∈ l, fitD x = true) (r1 : List Int) (r2 : Int) (h : putDs l = (r1, r2)) :
    Calls Try.prog 13 #[.slice A l.length c] w fun e w' => ∃ v, e = .returned (.tuple #[v, .int .i64 r2]) ∧ Kd.R (Kd.int .u8) 5 w' w.heap.size (fun _ => True) v r1 ∧ Below w.heap.size w w' := by
  have hu36 := Try.underlying36
  have hu25 := Try.underlying25
  have HC := Aside0.mk hr
  have HF := Aside0.mk hf
  have HH := Aside0.mk h
  have hm := Kd.C_max hr
  clear hr hc hf h
  go_enter Try.func13, Try.ntmps13
  by_cases h4 : 4 < l.length
  · have d1 : decide ((4 : Int) < (l.length : Int)) = true := decide_eq_true (by omega)
    have HG := Aside0.mk (show r1 = [] ∧ r2 = 3 by have h := HH.out; unfold putDs at h; rw [if_pos h4] at h; obtain ⟨a, b⟩ := Prod.mk.inj h; exact ⟨a.symm, b.symm⟩)
    go_wp2
    go_ret2
    obtain ⟨rfl, rfl⟩ := HG.out
    exact ⟨_, rfl, Kd.R_nil _ _ _ _ _, Below.refl _ _⟩
  have d1 : decide ((4 : Int) < (l.length : Int)) = false := decide_eq_false (by omega)
  have HH2 : Aside0 ((r1, r2) = if firstD l ≠ 0 then (([] : List Int), firstD l) else (encDs l, 0)) := ⟨by rw [← HH.out]; unfold putDs; rw [if_neg h4]⟩
  clear HH
  go_wp2_with fail
  go_loopg [12] (l.length + 1) (fun k v12 w' => ∃ i : Nat, v12 = .int .i64 (i : Int) ∧ Aside0 (i + k = l.length + 1) ∧ Aside0 (firstD (l.drop i) = firstD l) ∧ Aside0 (Below w.heap.size w w'))
  case atStart => exact ⟨0, rfl, ⟨by omega⟩, ⟨by rw [List.drop_zero]⟩, ⟨Below.refl _ _⟩⟩
  case round =>
    obtain ⟨i, rfl, HI, HFE, HB⟩ := hrel
    by_cases hi : i < l.length
    · have d3 : decide ((i : Int) < (l.length : Int)) = true := decide_eq_true (by omega)
      obtain ⟨ad, P2, q2, e_, hx, hx1, hx2, hl2, hi2⟩ := at_T36 (Kd.C_below HC.out HB.out) (i : Int) (by omega) (by omega)
      cases e_
      rw [Int.toNat_natCast] at hx hx1 hx2
      obtain ⟨x, hx0⟩ : ∃ x, x = rd_T36 l (i : Int) := ⟨_, rfl⟩
      rw [← hx0] at hx hx1 hx2 hl2 hi2
      have hxm : x ∈ l := by rw [hx0]; exact rdD_mem hi
      have HX := Aside0.mk hx0
      have HI2 := Aside0.mk hi2
      have HL2 := Aside0.mk hl2
      have HIL := Aside0.mk hi
      have HMD : Aside0 (qcode_MayDefG.f x.f0 x.f1 x.f2.f0 = some (defE x)) := ⟨if_pos (fitD_iff.1 (HF.out x hxm))⟩
      clear hx0 hi2 hl2 hxm
      go_upto_region 6 with (first | ((with_reducible refine gate_dst (N := 5) rfl ?_); (try (refine gate_guard (by rfl) ?_; dsimp only)); refine box_event ?hg (N := 5) ?hd (cs := #[.int .i64 0, .string (⟨#[]⟩ : ByteArray), .slice none 0 0]) (t := 36) ?hr ?_; (case hd => rfl); (case hg => rfl); (case hr => first | (go_simp; done) | (go_simp; rfl)); intro B hg_ w2 hbox_ hb_; have HBE := Aside0.mk hbox_; have HBM := Aside0.mk hg_; have HBD := Aside0.mk hb_; clear hbox_ hg_ hb_; have hq0 := blk_cell HBE.out 0; have hz0 := blk_frozen HBE.out 0; have hq1 := blk_cell HBE.out 1; have hz1 := blk_frozen HBE.out 1; have hq2 := blk_cell HBE.out 2; have hz2 := blk_frozen HBE.out 2))
      have HGB := Aside0.mk (show w.heap.size ≤ B ∧ wr.heap.size ≤ B from ⟨by rw [HBM.out]; exact HB.out.size, by rw [HBM.out]; exact Nat.le_refl _⟩)
      have n2_ := Aside0.mk ((((below_step HB.out HBD.out).setCell (p := ⟨B, 0, none⟩) HGB.out.1 (.int .i64 x.f0)).setCell (p := ⟨B, 1, none⟩) HGB.out.1 (.string x.f1)).setCell (p := ⟨B, 2, none⟩) HGB.out.1 (.slice P2 x.f2.f0.length q2))
      have n3_ := Aside0.mk (((HBD.out.setCell (p := ⟨B, 0, none⟩) HGB.out.2 (.int .i64 x.f0)).setCell (p := ⟨B, 1, none⟩) HGB.out.2 (.string x.f1)).setCell (p := ⟨B, 2, none⟩) HGB.out.2 (.slice P2 x.f2.f0.length q2))
      have n4_ := Aside0.mk (blk_put (cs' := #[.int .i64 x.f0, .string x.f1, .slice P2 x.f2.f0.length q2]) (blk_put (cs' := #[.int .i64 x.f0, .string x.f1, .slice none 0 0]) (blk_put (cs' := #[.int .i64 x.f0, .string (⟨#[]⟩ : ByteArray), .slice none 0 0]) HBE.out 0 (.int .i64 x.f0) rfl) 1 (.string x.f1) rfl) 2 (.slice P2 x.f2.f0.length q2) rfl)
      clear HBE HBD hq0 hq1 hq2 hz0 hz1 hz2 hx hx1 hx2 HB
      generalize ((w2.setCell ⟨B, 0, none⟩ (.int .i64 x.f0)).setCell ⟨B, 1, none⟩ (.string x.f1)).setCell ⟨B, 2, none⟩ (.slice P2 x.f2.f0.length q2) = w3 at n2_ n3_ n4_ ⊢
      have hq0 := blk_cell n4_.out 0
      have hq1 := blk_cell n4_.out 1
      have hq2 := blk_cell n4_.out 2
      go_wp2_with fail
      refine (qcode_MayDefG.calls x.f0 x.f1 P2 q2 x.f2.f0 (defE x) w3 (Kd.C_below HI2.out n3_.out) HL2.out HMD.out).mono ?_
      rintro e w4 ⟨rfl, hb⟩
      have HB := Aside0.mk (below_step n2_.out hb)
      clear n2_ n3_ n4_ hq0 hq1 hq2 hb HMD
      obtain ⟨v, hv⟩ : ∃ v, v = defE x := ⟨_, rfl⟩
      rw [← hv]
      have HV := Aside0.mk hv
      clear hv
      by_cases hv0 : v = 0
      · have b1 : (v != 0) = false := bne_eq_false_iff_eq.mpr hv0
        have HFN := Aside0.mk (show firstD (l.drop (i + 1)) = firstD l by rw [← firstD_yes HIL.out (by rw [← HX.out, ← HV.out]; exact hv0)]; exact HFE.out)
        clear hv0
        go_wp2_with fail
        go_roundg (l.length - i)
        case measure => have := HI.out; omega
        case rel => exact ⟨i + 1, by go_num, ⟨by have := HI.out; omega⟩, HFN, HB⟩
      · have b1 : (v != 0) = true := bne_iff_ne.mpr hv0
        have HR := Aside0.mk (show r1 = [] ∧ r2 = v by
          have h := HH2.out
          have e : firstD l = v := by rw [← HFE.out, firstD_no HIL.out (by rw [← HX.out, ← HV.out]; exact hv0), ← HX.out, HV.out]
          rw [e, if_pos hv0] at h
          exact Prod.mk.inj h)
        clear hv0
        go_wp2_with fail
        go_ret2
        obtain ⟨rfl, rfl⟩ := HR.out
        exact ⟨_, rfl, Kd.R_nil _ _ _ _ _, HB.out⟩
    · have d3 : decide ((i : Int) < (l.length : Int)) = false := decide_eq_false (by omega)
      have HFZ : Aside0 (firstD l = 0) := ⟨by rw [← HFE.out, List.drop_eq_nil_of_le (by omega)]; rfl⟩
      have HOK := Aside0.mk (firstD_zero.1 HFZ.out)
      have HR := Aside0.mk (show r1 = encDs l ∧ r2 = 0 by
        have h := HH2.out
        rw [if_neg (by rw [HFZ.out]; simp)] at h
        exact Prod.mk.inj h)
      have hz := encDs_size (l := l) (by omega) HOK.out
      have hz2 : ([] : List Int).length + ((enc (l.length : Int)).length + (l.flatMap encD).length) ≤ 1000000000000 := by unfold encDs at hz; rw [List.length_append] at hz; simp only [List.length_nil]; omega
      have HLD := Aside0.mk (listDef encD 32 none 0 [] A c l wr (Kd.C_nil _ _) (Nat.le_refl _) (Kd.C_below HC.out HB.out) hz2 (enters_of Try.func32 (by kernel_rfl) rfl) (fun x hx w1 _ A' c' l' h1 h2 h3 P2 q2 g2 g3 => qcode_PutDefs_1.calls A' c' l' x.f0 x.f1 P2 q2 x.f2.f0 (l' ++ encD x) w1 h1 h2 g2 g3 (def_val (HOK.out x hx) h3)))
      clear hz hz2
      go_wp2_with fail
      refine HLD.out.mono ?_
      rintro e w4 ⟨v, rfl, ho, hb⟩
      have HO := Aside0.mk (Kd.R_lower ho HB.out.size)
      have HB4 := Aside0.mk (below_step HB.out hb)
      clear ho hb
      go_wp2_with fail
      go_ret2
      obtain ⟨rfl, rfl⟩ := HR.out
      exact ⟨_, rfl, HO.out, HB4.out⟩
end Go.Proofs.Ytdpigeineephlaa.Nam
namespace Go.Proofs.Ytdpigeineephlaa.Prt
open Go.RowKit Go.Proofs.YtdpigeineephlaaW.PrintWords Go.Proofs.YtdpigeineephlaaW.PrintLast Go.Proofs.YtdpigeineephlaaW.PrintMore Go.Proofs.Ytdpigeineephlaa.Num Go.Proofs.Ytdpigeineephlaa.Nam
set_option linter.unusedVariables false
set_option linter.unusedSimpArgs false
def qcode_PutDefs.f (l0 : List S36) : Option (List Int × Int) := if l0.all fitD = true then some (putDs l0) else none
theorem qcode_PutDefs.calls (A0 : Option Addr) (c0 : Nat) (l0 : List (S36)) (r1 : List Int) (r2 : Int) (w : World) (hr0 : Kd.C k36 w A0 l0.length l0) (hc0 : l0.length ≤ c0) (h : qcode_PutDefs.f l0 = some (r1, r2)) :
    Calls Try.prog 13 #[.slice A0 l0.length c0] w fun e w' => ∃ v0_ : Value, e = .returned (.tuple #[v0_, .int .i64 r2]) ∧ Kd.R (Kd.int .u8) 5 w' w.heap.size (fun _ => True) v0_ r1 ∧ Below w.heap.size w w' := by
  unfold qcode_PutDefs.f at h
  by_cases hc : l0.all fitD = true
  · rw [if_pos hc] at h
    exact putDefs_calls A0 c0 l0 w hr0 hc0 (List.all_eq_true.1 hc) r1 r2 (Option.some.inj h)
  · rw [if_neg hc] at h; cases h
end Go.Proofs.Ytdpigeineephlaa.Prt
namespace Go.Proofs.Ytdpigeineephlaa.Prt
open Go.RowKit Go.Proofs.YtdpigeineephlaaW.PrintWords Go.Proofs.YtdpigeineephlaaW.PrintLast Go.Proofs.YtdpigeineephlaaW.PrintMore
attribute [local go_sem] max2_int min2_int max_two min_two max_three min_three max_four min_four   -- for this text's walks alone
set_option linter.unusedVariables false
set_option linter.unusedSimpArgs false

def qcode_Put.f (l0 : List Int) (l1_0 : List (S60)) : Option (List Int × Int) := (query_May.f l1_0).bind fun t123 => (if t123 = 0 then ((qcode_put.f l0 l1_0).bind fun t124 => (some (t124, 0))) else (some (([] : List Int), t123)))
set_option maxHeartbeats 8000000 in
set_option maxRecDepth 100000 in
theorem qcode_Put.calls (A0 : Option Addr) (c0 : Nat) (l0 : List Int) (A1_0 : Option Addr) (c1_0 : Nat) (l1_0 : List (S60)) (r1 : List Int) (r2 : Int) (w : World) (hr0 : Kd.C (Kd.int .u8) w A0 l0.length l0) (hc0 : l0.length ≤ c0) (hr1_0 : Kd.C k60 w A1_0 l1_0.length l1_0) (hc1_0 : l1_0.length ≤ c1_0) (h : qcode_Put.f l0 l1_0 = some (r1, r2)) :
    Calls Try.prog 10 #[.slice A0 l0.length c0, .agg #[.slice A1_0 l1_0.length c1_0]] w fun e w' => ∃ v0_ : Value, e = .returned (.tuple #[v0_, .int .i64 r2]) ∧ Kd.R (Kd.int .u8) 5 w' w.heap.size (fun _ => True) v0_ r1 ∧ Below w.heap.size w w' := by
  have hu25 := Try.underlying25
  have HR0 := Aside0.mk hr0
  have HC0 := Aside0.mk hc0
  clear hr0 hc0
  have HR1_0 := Aside0.mk hr1_0
  have HC1_0 := Aside0.mk hc1_0
  clear hr1_0 hc1_0
  have HB := Aside0.mk (Below.refl w.heap.size w)
  have H : ((query_May.f l1_0).bind fun t123 => (if t123 = 0 then ((qcode_put.f l0 l1_0).bind fun t124 => (some (t124, 0))) else (some (([] : List Int), t123)))) = some (r1, r2) := h
  clear h
  replace H := Option.bind_eq_some_iff.mp H
  obtain ⟨t123, A30, H⟩ := H
  replace H : (if t123 = 0 then ((qcode_put.f l0 l1_0).bind fun t124 => (some (t124, 0))) else (some (([] : List Int), t123))) = some (r1, r2) := H
  have A3 := Aside0.mk A30
  clear A30
  by_cases c4 : t123 = 0
  · rw [if_pos c4] at H
    have c4b0 : (t123 == 0) = true := beq_iff_eq.mpr c4
    have c4b1 : (t123 != 0) = false := bne_eq_false_iff_eq.mpr c4
    clear c4
    replace H := Option.bind_eq_some_iff.mp H
    obtain ⟨t124, A50, H⟩ := H
    replace H : (some (t124, 0)) = some (r1, r2) := H
    have A5 := Aside0.mk A50
    clear A50
    simp only [Option.some.injEq, Prod.mk.injEq] at H
    obtain ⟨rfl, rfl⟩ := H
    go_enter Try.func10, Try.ntmps10
    go_wp2_with (first | ((with_reducible refine gate_dst (N := 3) rfl ?_); refine box_event ?hg (N := 3) ?hd (cs := #[.slice A1_0 l1_0.length c1_0]) (t := 25) ?hr ?_; (case hd => rfl); (case hg => rfl); (case hr => first | (go_simp; done) | (go_simp; rfl)); intro gb122 hg w6 hbox hb; have n0_ := Aside0.mk (below_step (by repeat (first | (with_reducible first | exact HB.out | apply below_alloc | apply pw_below_drewN | apply below_drew1) | exact HB.out)) hb); have n1_ := Aside0.mk (hbox); have n2_ := Aside0.mk ((by rw [hg]; exact (below_size (by repeat (first | (with_reducible first | exact HB.out | apply below_alloc | apply pw_below_drewN | apply below_drew1) | exact HB.out))) : w.heap.size ≤ gb122)); have n3_ := Aside0.mk ((by rw [hg]; exact (below_size (by repeat (first | (with_reducible first | exact HB.out | apply below_alloc | apply pw_below_drewN | apply below_drew1) | exact HB.out))) : w.heap.size ≤ gb122)); clear HB; have HB := n0_; have BK122 := n1_; have GW122 := n2_; have GE122 := n3_; clear n0_ n1_ n2_ n3_; clear hb hbox hg; have hcz7_0 : w6.cell? ⟨gb122, 0, none⟩ = some (.slice A1_0 l1_0.length c1_0) := (blk_cell BK122.out 0).trans rfl; have hfz7_0 := blk_frozen BK122.out 0) | ((with_reducible refine gate_callee (f := 26) rfl ?_); refine goesL_ (some 8) rfl rfl Try.func26 (by kernel_rfl) rfl #[.agg #[.slice A1_0 l1_0.length c1_0]] rfl (by (try simp only [List.map_toArray, List.map_cons, List.map_nil]); first | done | rfl | (simp only [List.length_drop, List.length_take]; rfl)) ?_; (with_reducible refine (query_May.calls _ _ l1_0 t123 _ ?side1 ?side2 A3.out).mono ?_); (case side1 => repeat (first | exact (Kd.C_below HR1_0.out HB.out) | (with_reducible refine Kd.C_alloc ?_ _) | (with_reducible refine Kd.C_drewN ?_ _) | (with_reducible refine Kd.C_drew ?_))); (case side2 => exact HC1_0.out); rintro e w8 ⟨rfl, hb⟩; refine ⟨_, rfl, ?_⟩; have n0_ := Aside0.mk (blk_below (g := gb122) (o := .cells #[.slice A1_0 l1_0.length c1_0] 25 (0, 0)) (by (with_reducible repeat (first | refine blk_drewN ?_ _ | refine blk_drew ?_ | refine blk_alloc ?_ _)); exact BK122.out) hb); have n1_ := Aside0.mk (below_step (by repeat (first | (with_reducible first | exact HB.out | apply below_alloc | apply pw_below_drewN | apply below_drew1 | refine below_set ?_ GE122.out) | exact HB.out)) hb); clear BK122; clear HB; have BK122 := n0_; have HB := n1_; clear n0_ n1_; (try clear hb); (try clear hb2); (try clear hk); (try clear hi); have hcz9_0 : w8.cell? ⟨gb122, 0, none⟩ = some (.slice A1_0 l1_0.length c1_0) := (blk_cell BK122.out 0).trans rfl; have hfz9_0 := blk_frozen BK122.out 0) | ((with_reducible refine gate_callee (f := 27) rfl ?_); refine goesL_ (some 14) rfl rfl Try.func27 (by kernel_rfl) rfl #[.slice A0 l0.length c0, .agg #[.slice A1_0 l1_0.length c1_0]] rfl (by (try simp only [List.map_toArray, List.map_cons, List.map_nil]); first | done | rfl | (simp only [List.length_drop, List.length_take]; rfl)) ?_; (with_reducible refine (qcode_put.calls _ _ l0 _ _ l1_0 t124 _ ?side1 ?side2 ?side3 ?side4 A5.out).mono ?_); (case side1 => repeat (first | exact (Kd.C_below HR0.out HB.out) | (with_reducible refine Kd.C_alloc ?_ _) | (with_reducible refine Kd.C_drewN ?_ _) | (with_reducible refine Kd.C_drew ?_))); (case side2 => exact HC0.out); (case side3 => repeat (first | exact (Kd.C_below HR1_0.out HB.out) | (with_reducible refine Kd.C_alloc ?_ _) | (with_reducible refine Kd.C_drewN ?_ _) | (with_reducible refine Kd.C_drew ?_))); (case side4 => exact HC1_0.out); rintro e w10 ⟨v125, rfl, ho0, hb⟩; refine ⟨_, rfl, ?_⟩; have n0_ := Aside0.mk (Kd.R_lower ho0 (below_size (by repeat (first | (with_reducible first | exact HB.out | apply below_alloc | apply pw_below_drewN | apply below_drew1 | refine below_set ?_ GE122.out) | exact HB.out)))); have n1_ := Aside0.mk (blk_below (g := gb122) (o := .cells #[.slice A1_0 l1_0.length c1_0] 25 (0, 0)) (by (with_reducible repeat (first | refine blk_drewN ?_ _ | refine blk_drew ?_ | refine blk_alloc ?_ _)); exact BK122.out) hb); have n2_ := Aside0.mk (below_step (by repeat (first | (with_reducible first | exact HB.out | apply below_alloc | apply pw_below_drewN | apply below_drew1 | refine below_set ?_ GE122.out) | exact HB.out)) hb); clear BK122; clear HB; have HO126 := n0_; have BK122 := n1_; have HB := n2_; clear n0_ n1_ n2_; (try clear hb); (try clear hb2); (try clear hk); (try clear hi); (try clear ho0)))
    go_ret2
    exact ⟨_, by first | rfl | (simp [errW_none, errW_some] <;> rfl) | (simp [*, errW_none, errW_some] <;> rfl), by (with_reducible repeat (first | apply Kd.R_alloc | apply Kd.R_drewN | apply Kd.R_drew)); exact HO126.out, by repeat (first | (with_reducible first | exact HB.out | apply below_alloc | apply pw_below_drewN | apply below_drew1 | refine below_set ?_ GE122.out) | exact HB.out)⟩
  · rw [if_neg c4] at H
    have c4b0 : (t123 == 0) = false := beq_eq_false_iff_ne.mpr c4
    have c4b1 : (t123 != 0) = true := bne_iff_ne.mpr c4
    simp only [Option.some.injEq, Prod.mk.injEq] at H
    obtain ⟨rfl, rfl⟩ := H
    go_enter Try.func10, Try.ntmps10
    go_wp2_with (first | ((with_reducible refine gate_dst (N := 3) rfl ?_); refine box_event ?hg (N := 3) ?hd (cs := #[.slice A1_0 l1_0.length c1_0]) (t := 25) ?hr ?_; (case hd => rfl); (case hg => rfl); (case hr => first | (go_simp; done) | (go_simp; rfl)); intro gb122 hg w11 hbox hb; have n0_ := Aside0.mk (below_step (by repeat (first | (with_reducible first | exact HB.out | apply below_alloc | apply pw_below_drewN | apply below_drew1) | exact HB.out)) hb); have n1_ := Aside0.mk (hbox); have n2_ := Aside0.mk ((by rw [hg]; exact (below_size (by repeat (first | (with_reducible first | exact HB.out | apply below_alloc | apply pw_below_drewN | apply below_drew1) | exact HB.out))) : w.heap.size ≤ gb122)); have n3_ := Aside0.mk ((by rw [hg]; exact (below_size (by repeat (first | (with_reducible first | exact HB.out | apply below_alloc | apply pw_below_drewN | apply below_drew1) | exact HB.out))) : w.heap.size ≤ gb122)); clear HB; have HB := n0_; have BK122 := n1_; have GW122 := n2_; have GE122 := n3_; clear n0_ n1_ n2_ n3_; clear hb hbox hg; have hcz12_0 : w11.cell? ⟨gb122, 0, none⟩ = some (.slice A1_0 l1_0.length c1_0) := (blk_cell BK122.out 0).trans rfl; have hfz12_0 := blk_frozen BK122.out 0) | ((with_reducible refine gate_callee (f := 26) rfl ?_); refine goesL_ (some 8) rfl rfl Try.func26 (by kernel_rfl) rfl #[.agg #[.slice A1_0 l1_0.length c1_0]] rfl (by (try simp only [List.map_toArray, List.map_cons, List.map_nil]); first | done | rfl | (simp only [List.length_drop, List.length_take]; rfl)) ?_; (with_reducible refine (query_May.calls _ _ l1_0 t123 _ ?side1 ?side2 A3.out).mono ?_); (case side1 => repeat (first | exact (Kd.C_below HR1_0.out HB.out) | (with_reducible refine Kd.C_alloc ?_ _) | (with_reducible refine Kd.C_drewN ?_ _) | (with_reducible refine Kd.C_drew ?_))); (case side2 => exact HC1_0.out); rintro e w13 ⟨rfl, hb⟩; refine ⟨_, rfl, ?_⟩; have n0_ := Aside0.mk (blk_below (g := gb122) (o := .cells #[.slice A1_0 l1_0.length c1_0] 25 (0, 0)) (by (with_reducible repeat (first | refine blk_drewN ?_ _ | refine blk_drew ?_ | refine blk_alloc ?_ _)); exact BK122.out) hb); have n1_ := Aside0.mk (below_step (by repeat (first | (with_reducible first | exact HB.out | apply below_alloc | apply pw_below_drewN | apply below_drew1 | refine below_set ?_ GE122.out) | exact HB.out)) hb); clear BK122; clear HB; have BK122 := n0_; have HB := n1_; clear n0_ n1_; (try clear hb); (try clear hb2); (try clear hk); (try clear hi)))
    go_ret2
    exact ⟨_, by first | rfl | (simp [errW_none, errW_some] <;> rfl) | (simp [*, errW_none, errW_some] <;> rfl), by first | exact Kd.R_nil _ _ _ _ _ | exact Kd.N_nil _ _ _ _ _ | exact Kd.V_nil _ _ _ _ _ | exact Kd.Q_nil _ _ _ _ _ | exact Kd.S_nil _ _ _ _ _, by repeat (first | (with_reducible first | exact HB.out | apply below_alloc | apply pw_below_drewN | apply below_drew1 | refine below_set ?_ GE122.out) | exact HB.out)⟩

end Go.Proofs.Ytdpigeineephlaa.Prt
namespace Go.Proofs.Ytdpigeineephlaa.Prt
open Go.RowKit Go.Proofs.YtdpigeineephlaaW.PrintWords Go.Proofs.YtdpigeineephlaaW.PrintLast Go.Proofs.YtdpigeineephlaaW.PrintMore
attribute [local go_sem] max2_int min2_int max_two min_two max_three min_three max_four min_four   -- for this text's walks alone
set_option linter.unusedVariables false
set_option linter.unusedSimpArgs false

def registrarlaw07_shown.f  : Option (Bool) := (qcode_Put.f ([] : List Int) (([(⟨([] : List ByteArray), ([] : List ByteArray)⟩ : S60)] : List (S60)))).bind fun bt130 => (if (strOfNums bt130.1).toList = ([2, 0, 0] : List UInt8) then (some (bt130.2 == 0)) else (some false))
set_option maxHeartbeats 8000000 in
set_option maxRecDepth 100000 in
theorem registrarlaw07_shown.calls  (r : Bool) (w : World) (h : registrarlaw07_shown.f  = some r) :
    Calls Try.prog 9 #[] w fun e w' => e = .returned (.bool r) ∧ Below w.heap.size w w' := by
  have hu60 := Try.underlying60
  have hu25 := Try.underlying25
  have HB := Aside0.mk (Below.refl w.heap.size w)
  have H : ((qcode_Put.f ([] : List Int) (([(⟨([] : List ByteArray), ([] : List ByteArray)⟩ : S60)] : List (S60)))).bind fun bt130 => (if (strOfNums bt130.1).toList = ([2, 0, 0] : List UInt8) then (some (bt130.2 == 0)) else (some false))) = some r := h
  clear h
  obtain ⟨y127, hy127⟩ : ∃ y_ : List (S60), y_ = (([(⟨([] : List ByteArray), ([] : List ByteArray)⟩ : S60)] : List (S60))) := ⟨_, rfl⟩
  replace H : ((qcode_Put.f ([] : List Int) y127).bind fun bt130 => (if (strOfNums bt130.1).toList = ([2, 0, 0] : List UInt8) then (some (bt130.2 == 0)) else (some false))) = some r := by first | (rw [hy127]; with_reducible exact H) | (have H2_ := (Option.bind_some _ _).symm.trans H; rw [hy127]; with_reducible exact H2_) | (have H2_ := (Option.bind_some _ _).symm.trans H; with_reducible exact H2_) | with_reducible exact H | (rw [hy127]; exact H) | exact H
  have Ny127 := Aside0.mk hy127
  clear hy127
  replace H := Option.bind_eq_some_iff.mp H
  obtain ⟨⟨t130, t133⟩, A10, H⟩ := H
  replace H : (if (strOfNums t130).toList = ([2, 0, 0] : List UInt8) then (some (t133 == 0)) else (some false)) = some r := H
  have A1 := Aside0.mk A10
  clear A10
  by_cases c2 : (strOfNums t130).toList = ([2, 0, 0] : List UInt8)
  · rw [if_pos c2] at H
    have c2b0 : ((strOfNums t130).toList == ([2, 0, 0] : List UInt8)) = true := beq_iff_eq.mpr c2
    have c2b1 : ((strOfNums t130).toList != ([2, 0, 0] : List UInt8)) = false := bne_eq_false_iff_eq.mpr c2
    clear c2
    obtain rfl := Option.some.inj H
    go_enter Try.func9, Try.ntmps9
    go_wp2_with (first | ((with_reducible refine gate_dst (N := 5) rfl ?_); refine Kd.S_lit k60 _ 60 ?hg (N := 5) ?hd (xs := ([(⟨([] : List ByteArray), ([] : List ByteArray)⟩ : S60)] : List (S60))) (inner := [.slice none 0 0, .slice none 0 0]) (ok := fun _ => True) (okp := fun _ => True) ?hr ?hp (fun _ hk => hk) trivial (Below.refl _ _) (Nat.le_refl _) (by simp) ?_; (case hd => rfl); (case hg => rfl); (case hr => first | (go_simp; done) | (go_simp; rfl)); (case hp => exact (Reps.c2 (show Kd.M k60 _ _ _ (⟨([] : List ByteArray), ([] : List ByteArray)⟩ : S60) [.slice none 0 0, .slice none 0 0] from (k60_mkM _ _ _ (⟨([] : List ByteArray), ([] : List ByteArray)⟩ : S60) (Kd.R_nil _ _ _ _ _) (Kd.R_nil _ _ _ _ _))) (Reps.none _ _))); intro v128 w3 ho4 hb hg_ hnew_; clear hg_ hnew_; (first | rw [← Ny127.out] at ho4 | (simp only [Int.reduceToNat] at ho4; rw [← Ny127.out] at ho4)); have n0_ := Aside0.mk (Kd.S_lower ho4 (below_size (by repeat (first | (with_reducible first | exact HB.out | apply below_alloc | apply pw_below_drewN | apply below_drew1) | exact HB.out)))); have n1_ := Aside0.mk (below_step (by repeat (first | (with_reducible first | exact HB.out | apply below_alloc | apply pw_below_drewN | apply below_drew1) | exact HB.out)) hb); clear HB; have HO129 := n0_; have HB := n1_; clear n0_ n1_; clear hb ho4; obtain ⟨Ao5, co5, eo5⟩ := Kd.S_slice HO129.out; subst eo5) | ((with_reducible refine gate_callee (f := 10) rfl ?_); refine goesL_ (some 7) rfl rfl Try.func10 (by kernel_rfl) rfl #[.slice none 0 0, .agg #[.slice Ao5 y127.length co5]] rfl (by (try simp only [List.map_toArray, List.map_cons, List.map_nil]); first | done | rfl | (simp only [List.length_drop, List.length_take]; rfl)) ?_; (refine (qcode_Put.calls _ _ ([] : List Int) _ _ y127 t130 t133 _ ?side1 ?side2 ?side3 ?side4 A1.out).mono ?_); (case side1 => exact Kd.C_nil _ _); (case side2 => exact Nat.le_refl _); (case side3 => repeat (first | exact (Kd.S_reads' HO129.out).2.2 | (with_reducible refine Kd.C_alloc ?_ _) | (with_reducible refine Kd.C_drewN ?_ _) | (with_reducible refine Kd.C_drew ?_))); (case side4 => exact (Kd.S_reads' HO129.out).2.1); rintro e w6 ⟨v131, rfl, ho0, hb⟩; refine ⟨_, rfl, ?_⟩; have n0_ := Aside0.mk (Kd.S_below (by (with_reducible repeat (first | apply Kd.S_alloc | apply Kd.S_drewN | apply Kd.S_drew)); exact HO129.out) hb); have n1_ := Aside0.mk (Kd.R_lower ho0 (below_size (by repeat (first | (with_reducible first | exact HB.out | apply below_alloc | apply pw_below_drewN | apply below_drew1) | exact HB.out)))); have n2_ := Aside0.mk (below_step (by repeat (first | (with_reducible first | exact HB.out | apply below_alloc | apply pw_below_drewN | apply below_drew1) | exact HB.out)) hb); clear HO129; clear HB; have HO129 := n0_; have HO132 := n1_; have HB := n2_; clear n0_ n1_ n2_; (try clear hb); (try clear hb2); (try clear hk); (try clear hi); (try clear ho0); have hcv7 := own_string (P := Try.prog) Try.underlying22 Try.underlying5 Try.underlying9 (Kd.own_of_R HO132.out)))
    go_ret
    exact ⟨by first | rfl | (simp [errW_none, errW_some] <;> rfl) | (simp [*, errW_none, errW_some] <;> rfl), by repeat (first | (with_reducible first | exact HB.out | apply below_alloc | apply pw_below_drewN | apply below_drew1) | exact HB.out)⟩
  · rw [if_neg c2] at H
    have c2b0 : ((strOfNums t130).toList == ([2, 0, 0] : List UInt8)) = false := beq_eq_false_iff_ne.mpr c2
    have c2b1 : ((strOfNums t130).toList != ([2, 0, 0] : List UInt8)) = true := bne_iff_ne.mpr c2
    obtain rfl := Option.some.inj H
    go_enter Try.func9, Try.ntmps9
    go_wp2_with (first | ((with_reducible refine gate_dst (N := 5) rfl ?_); refine Kd.S_lit k60 _ 60 ?hg (N := 5) ?hd (xs := ([(⟨([] : List ByteArray), ([] : List ByteArray)⟩ : S60)] : List (S60))) (inner := [.slice none 0 0, .slice none 0 0]) (ok := fun _ => True) (okp := fun _ => True) ?hr ?hp (fun _ hk => hk) trivial (Below.refl _ _) (Nat.le_refl _) (by simp) ?_; (case hd => rfl); (case hg => rfl); (case hr => first | (go_simp; done) | (go_simp; rfl)); (case hp => exact (Reps.c2 (show Kd.M k60 _ _ _ (⟨([] : List ByteArray), ([] : List ByteArray)⟩ : S60) [.slice none 0 0, .slice none 0 0] from (k60_mkM _ _ _ (⟨([] : List ByteArray), ([] : List ByteArray)⟩ : S60) (Kd.R_nil _ _ _ _ _) (Kd.R_nil _ _ _ _ _))) (Reps.none _ _))); intro v128 w8 ho9 hb hg_ hnew_; clear hg_ hnew_; (first | rw [← Ny127.out] at ho9 | (simp only [Int.reduceToNat] at ho9; rw [← Ny127.out] at ho9)); have n0_ := Aside0.mk (Kd.S_lower ho9 (below_size (by repeat (first | (with_reducible first | exact HB.out | apply below_alloc | apply pw_below_drewN | apply below_drew1) | exact HB.out)))); have n1_ := Aside0.mk (below_step (by repeat (first | (with_reducible first | exact HB.out | apply below_alloc | apply pw_below_drewN | apply below_drew1) | exact HB.out)) hb); clear HB; have HO129 := n0_; have HB := n1_; clear n0_ n1_; clear hb ho9; obtain ⟨Ao10, co10, eo10⟩ := Kd.S_slice HO129.out; subst eo10) | ((with_reducible refine gate_callee (f := 10) rfl ?_); refine goesL_ (some 7) rfl rfl Try.func10 (by kernel_rfl) rfl #[.slice none 0 0, .agg #[.slice Ao10 y127.length co10]] rfl (by (try simp only [List.map_toArray, List.map_cons, List.map_nil]); first | done | rfl | (simp only [List.length_drop, List.length_take]; rfl)) ?_; (refine (qcode_Put.calls _ _ ([] : List Int) _ _ y127 t130 t133 _ ?side1 ?side2 ?side3 ?side4 A1.out).mono ?_); (case side1 => exact Kd.C_nil _ _); (case side2 => exact Nat.le_refl _); (case side3 => repeat (first | exact (Kd.S_reads' HO129.out).2.2 | (with_reducible refine Kd.C_alloc ?_ _) | (with_reducible refine Kd.C_drewN ?_ _) | (with_reducible refine Kd.C_drew ?_))); (case side4 => exact (Kd.S_reads' HO129.out).2.1); rintro e w11 ⟨v131, rfl, ho0, hb⟩; refine ⟨_, rfl, ?_⟩; have n0_ := Aside0.mk (Kd.S_below (by (with_reducible repeat (first | apply Kd.S_alloc | apply Kd.S_drewN | apply Kd.S_drew)); exact HO129.out) hb); have n1_ := Aside0.mk (Kd.R_lower ho0 (below_size (by repeat (first | (with_reducible first | exact HB.out | apply below_alloc | apply pw_below_drewN | apply below_drew1) | exact HB.out)))); have n2_ := Aside0.mk (below_step (by repeat (first | (with_reducible first | exact HB.out | apply below_alloc | apply pw_below_drewN | apply below_drew1) | exact HB.out)) hb); clear HO129; clear HB; have HO129 := n0_; have HO132 := n1_; have HB := n2_; clear n0_ n1_ n2_; (try clear hb); (try clear hb2); (try clear hk); (try clear hi); (try clear ho0); have hcv12 := own_string (P := Try.prog) Try.underlying22 Try.underlying5 Try.underlying9 (Kd.own_of_R HO132.out)))
    go_ret
    exact ⟨by first | rfl | (simp [errW_none, errW_some] <;> rfl) | (simp [*, errW_none, errW_some] <;> rfl), by repeat (first | (with_reducible first | exact HB.out | apply below_alloc | apply pw_below_drewN | apply below_drew1) | exact HB.out)⟩

end Go.Proofs.Ytdpigeineephlaa.Prt

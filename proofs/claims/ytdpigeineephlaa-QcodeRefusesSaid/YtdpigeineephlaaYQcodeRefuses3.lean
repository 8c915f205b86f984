/- Queries and projections that may be; their bytes. Functions of the program, told as plain functions, with their walks: written by a program of this claim's out of the translation. The reference's queries: what is wrong with one, and texts as bytes: in closed form. The reference's queries as bytes, and whether two are the same: in closed form. What is wrong with a projection, as the reference says: in closed form. The reference's projections as bytes: in closed form. Whether two rows of projections are the same: in closed form. Projections as bytes: the walk of qcode.PutDefs. -/
import Derived.Test.YtdpigeineephlaaYQcodeRefuses1
import Derived.Test.YtdpigeineephlaaYQcodeRefuses2
namespace Go.Proofs.Ytdpigeineephlaa.Prt
open Go.RowKit Go.Proofs.YtdpigeineephlaaW.PrintWords Go.Proofs.YtdpigeineephlaaW.PrintLast Go.Proofs.YtdpigeineephlaaW.PrintMore Go.Proofs.Ytdpigeineephlaa.Num Go.Proofs.Ytdpigeineephlaa.Nam
set_option linter.unusedVariables false
set_option linter.unusedSimpArgs false

/-- What a clause is in which nothing is wrong. -/
structure OkC (x : S60) : Prop where
  h0 : x.f0.length ≤ 4
  h1 : x.f1.length ≤ 4
  ht : ∀ s ∈ x.f0, tagB s = true
  hn : ∀ s ∈ x.f1, mayL (bytesOf s) = true
  r0 : riseB x.f0 = true
  r1 : riseB x.f1 = true
/-- What a query is in which nothing is wrong. -/
structure OkQ (l : List S60) : Prop where
  h4 : l.length ≤ 4
  hc : ∀ x ∈ l, OkC x
theorem any_no {α : Type} {p : α → Bool} {l : List α} (h : ¬ (l.any p = true)) : ∀ x ∈ l, p x = false := fun x hx => by
  cases hp : p x with
  | false => rfl
  | true => exact absurd (List.any_eq_true.2 ⟨x, hx, hp⟩) h
theorem mayQ_zero {l : List S60} : mayQ l = 0 ↔ OkQ l := by
  unfold mayQ
  constructor
  · intro h
    by_cases c1 : 4 < l.length ∨ l.any bigC = true
    · rw [if_pos c1] at h; cases h
    rw [if_neg c1] at h
    by_cases c2 : l.any noneC = true
    · rw [if_pos c2] at h; cases h
    rw [if_neg c2] at h
    by_cases c3 : l.any downC = true
    · rw [if_pos c3] at h; cases h
    rw [not_or] at c1
    refine ⟨by omega, fun x hx => ?_⟩
    have b1 := any_no c1.2 x hx
    have b2 := any_no c2 x hx
    have b3 := any_no c3 x hx
    unfold bigC at b1
    unfold noneC at b2
    unfold downC at b3
    rw [Bool.or_eq_false_iff] at b1 b2 b3
    rw [decide_eq_false_iff_not, decide_eq_false_iff_not] at b1
    refine ⟨by omega, by omega, fun s hs => ?_, fun s hs => ?_, by simpa using b3.1, by simpa using b3.2⟩
    · have := List.any_eq_false.1 b2.1 s hs; simpa using this
    · have := List.any_eq_false.1 b2.2 s hs; simpa using this
  · rintro ⟨h4, hc⟩
    rw [if_neg ?_, if_neg ?_, if_neg ?_]
    · intro c
      obtain ⟨x, hx, h⟩ := List.any_eq_true.1 c
      unfold downC at h
      rw [(hc x hx).r0, (hc x hx).r1] at h; cases h
    · intro c
      obtain ⟨x, hx, h⟩ := List.any_eq_true.1 c
      unfold noneC at h
      rw [Bool.or_eq_true] at h
      rcases h with h | h
      · obtain ⟨s, hs, h⟩ := List.any_eq_true.1 h
        rw [(hc x hx).ht s hs] at h; cases h
      · obtain ⟨s, hs, h⟩ := List.any_eq_true.1 h
        rw [(hc x hx).hn s hs] at h; cases h
    · rintro (c | c)
      · omega
      · obtain ⟨x, hx, h⟩ := List.any_eq_true.1 c
        unfold bigC at h
        have h0 := (hc x hx).h0
        have h1 := (hc x hx).h1
        rw [decide_eq_false (by omega), decide_eq_false (by omega)] at h; cases h
theorem OkC.fit {x : S60} (h : OkC x) : fitC x = true := fitC_iff.2 ⟨fun s hs => by have := tag_size (h.ht s hs); omega, fun s hs => by have := may_size (h.hn s hs); omega⟩
theorem OkQ.fit {l : List S60} (h : OkQ l) : l.all fitC = true := List.all_eq_true.2 fun x hx => (h.hc x hx).fit
theorem encL_size (l : List ByteArray) (h4 : l.length ≤ 4) (hs : ∀ s ∈ l, s.size ≤ 49) : (encL l).length ≤ 246 := by
  have h1 : ∀ l : List ByteArray, (∀ s ∈ l, s.size ≤ 49) → (encTs l).length ≤ 59 * l.length := by
    intro l
    induction l with
    | nil => intro _; simp [encTs]
    | cons x r ih =>
      intro hs
      have e : encTs (x :: r) = encT (bytesOf x) ++ encTs r := by unfold encTs; rw [List.flatMap_cons]
      have g1 := hs x (by simp)
      have g2 := encT_len x (by omega)
      have g3 := ih (fun z hz => hs z (by simp [hz]))
      rw [e, List.length_append, List.length_cons]; omega
  have h2 := h1 l hs
  have h3 := enc_len (x := (l.length : Int)) ⟨by omega, by omega⟩
  unfold encL
  rw [List.length_append]; omega
theorem encC_size {x : S60} (h : OkC x) : (encC x).length ≤ 492 := by
  have h1 := encL_size x.f0 h.h0 (fun s hs => tag_size (h.ht s hs))
  have h2 := encL_size x.f1 h.h1 (fun s hs => by have := may_size (h.hn s hs); omega)
  unfold encC
  rw [List.length_append]; omega
theorem flat_size {α : Type} {f : α → List Int} {n : Nat} : ∀ l : List α, (∀ x ∈ l, (f x).length ≤ n) → (l.flatMap f).length ≤ n * l.length
  | [], _ => by simp
  | x :: r, h => by
    have h1 := h x (by simp)
    have h2 := flat_size r (fun z hz => h z (by simp [hz]))
    rw [List.flatMap_cons, List.length_append, List.length_cons, Nat.mul_add]; omega
theorem encQ_size {l : List S60} (h : OkQ l) : (encQ l).length ≤ 2000 := by
  have h4 := h.h4
  have h1 := flat_size (f := encC) l (fun x hx => encC_size (h.hc x hx))
  have h3 := enc_len (x := (l.length : Int)) ⟨by omega, by omega⟩
  unfold encQ
  rw [List.length_append]; omega
/-- What is wrong with a projection, and with the first with which something is. -/
def defE (x : S36) : Int := mayD x.f0 x.f1 x.f2.f0
def firstD : List S36 → Int
  | [] => 0
  | x :: r => if defE x = 0 then firstD r else defE x
def fitD (x : S36) : Bool := x.f2.f0.all fitC && decide (x.f1.size ≤ 9223372036854775807)
theorem fitD_iff {x : S36} : fitD x = true ↔ x.f2.f0.all fitC = true ∧ x.f1.size ≤ 9223372036854775807 := by unfold fitD; rw [Bool.and_eq_true, decide_eq_true_iff]
/-- What a projection is in which nothing is wrong. -/
structure OkD (x : S36) : Prop where
  k1 : 1 ≤ x.f0
  k4 : x.f0 ≤ 4
  hq : OkQ x.f2.f0
  hf : x.f0 = 2 ∨ x.f0 = 3 → mayL (bytesOf x.f1) = true
  hn : ¬ (x.f0 = 2 ∨ x.f0 = 3) → x.f1.toList = []
theorem defE_zero {x : S36} : defE x = 0 ↔ OkD x := by
  unfold defE mayD
  constructor
  · intro h
    by_cases c1 : x.f0 < 1 ∨ 4 < x.f0
    · rw [if_pos c1] at h; cases h
    rw [if_neg c1] at h
    by_cases c2 : mayQ x.f2.f0 ≠ 0
    · rw [if_pos c2] at h; exact absurd h c2
    rw [if_neg c2] at h
    refine ⟨by omega, by omega, mayQ_zero.1 (by simpa using c2), fun c => ?_, fun c => ?_⟩
    · rw [if_pos c] at h
      by_cases c4 : mayL (bytesOf x.f1) = true
      · exact c4
      · rw [if_neg c4] at h; cases h
    · rw [if_neg c] at h
      by_cases c4 : x.f1.toList = []
      · exact c4
      · rw [if_neg c4] at h; cases h
  · rintro ⟨k1, k4, hq, hf, hn⟩
    rw [if_neg (by omega), if_neg (by rw [mayQ_zero.2 hq]; simp)]
    by_cases c : x.f0 = 2 ∨ x.f0 = 3
    · rw [if_pos c, if_pos (hf c)]
    · rw [if_neg c, if_pos (hn c)]
theorem firstD_zero {l : List S36} : firstD l = 0 ↔ ∀ x ∈ l, OkD x := by
  induction l with
  | nil => simp [firstD]
  | cons x r ih =>
    rw [firstD]
    by_cases h : defE x = 0
    · rw [if_pos h, ih]
      simp only [List.mem_cons, forall_eq_or_imp]
      exact ⟨fun g => ⟨defE_zero.1 h, g⟩, fun g => g.2⟩
    · rw [if_neg h]
      exact ⟨fun g => absurd g h, fun g => absurd (defE_zero.2 (g x (by simp))) h⟩
theorem empty_size {s : ByteArray} (h : s.toList = []) : s.size = 0 := by
  have h2 : s.toList.length = s.size := by rw [Lib.toList_data]; rfl
  rw [h] at h2; exact h2.symm
theorem OkD.size {x : S36} (h : OkD x) : x.f1.size ≤ 24 := by
  by_cases c : x.f0 = 2 ∨ x.f0 = 3
  · exact may_size (h.hf c)
  · have := empty_size (h.hn c); omega
/-- Projections as bytes. -/
def encD (x : S36) : List Int := enc x.f0 ++ (encT (bytesOf x.f1) ++ encQ x.f2.f0)
def encDs (l : List S36) : List Int := enc (l.length : Int) ++ l.flatMap encD
theorem encD_size {x : S36} (h : OkD x) : (encD x).length ≤ 2100 := by
  have k1 := h.k1
  have k4 := h.k4
  have h1 := enc_len (x := x.f0) ⟨by omega, by omega⟩
  have h2 := encT_len x.f1 (by have := h.size; omega)
  have h3 := encQ_size h.hq
  have h4 := h.size
  unfold encD
  rw [List.length_append, List.length_append]; omega
theorem encDs_size {l : List S36} (h4 : l.length ≤ 4) (h : ∀ x ∈ l, OkD x) : (encDs l).length ≤ 9000 := by
  have h1 := flat_size (f := encD) l (fun x hx => encD_size (h x hx))
  have h3 := enc_len (x := (l.length : Int)) ⟨by omega, by omega⟩
  unfold encDs
  rw [List.length_append]; omega
theorem drop_rdD (l : List S36) (i : Nat) (h : i < l.length) : l.drop i = rd_T36 l (i : Int) :: l.drop (i + 1) := by
  rw [List.drop_eq_getElem_cons h]
  unfold rd_T36
  rw [Int.toNat_natCast, List.getD_eq_getElem?_getD, List.getElem?_eq_getElem h]; rfl
theorem rdD_mem {l : List S36} {i : Nat} (h : i < l.length) : rd_T36 l (i : Int) ∈ l := getD_mem' h _
theorem firstD_yes {l : List S36} {i : Nat} (h : i < l.length) (h0 : defE (rd_T36 l (i : Int)) = 0) : firstD (l.drop i) = firstD (l.drop (i + 1)) := by rw [drop_rdD l i h, firstD, if_pos h0]
theorem firstD_no {l : List S36} {i : Nat} (h : i < l.length) (h0 : defE (rd_T36 l (i : Int)) ≠ 0) : firstD (l.drop i) = defE (rd_T36 l (i : Int)) := by rw [drop_rdD l i h, firstD, if_neg h0]
def putDs (l : List S36) : List Int × Int := if 4 < l.length then ([], 3) else if firstD l ≠ 0 then ([], firstD l) else (encDs l, 0)
end Go.Proofs.Ytdpigeineephlaa.Prt
namespace Go.Proofs.Ytdpigeineephlaa.Prt
open Go.RowKit Go.Proofs.YtdpigeineephlaaW.PrintWords Go.Proofs.YtdpigeineephlaaW.PrintLast Go.Proofs.YtdpigeineephlaaW.PrintMore
attribute [local go_sem] max2_int min2_int max_two min_two max_three min_three max_four min_four   -- for this text's walks alone
set_option linter.unusedVariables false
set_option linter.unusedSimpArgs false

end Go.Proofs.Ytdpigeineephlaa.Prt
namespace Go.Proofs.Ytdpigeineephlaa.Prt
open Go.RowKit Go.Proofs.YtdpigeineephlaaW.PrintWords Go.Proofs.YtdpigeineephlaaW.PrintLast Go.Proofs.YtdpigeineephlaaW.PrintMore
attribute [local go_sem] max2_int min2_int max_two min_two max_three min_three max_four min_four   -- for this text's walks alone
set_option linter.unusedVariables false
set_option linter.unusedSimpArgs false

end Go.Proofs.Ytdpigeineephlaa.Prt
namespace Go.Proofs.Ytdpigeineephlaa.Prt
open Go.RowKit Go.Proofs.YtdpigeineephlaaW.PrintWords Go.Proofs.YtdpigeineephlaaW.PrintLast Go.Proofs.YtdpigeineephlaaW.PrintMore Go.Proofs.Ytdpigeineephlaa.Num Go.Proofs.Ytdpigeineephlaa.Nam
set_option linter.unusedVariables false
set_option linter.unusedSimpArgs false

end Go.Proofs.Ytdpigeineephlaa.Prt
namespace Go.Proofs.Ytdpigeineephlaa.Prt
open Go.RowKit Go.Proofs.YtdpigeineephlaaW.PrintWords Go.Proofs.YtdpigeineephlaaW.PrintLast Go.Proofs.YtdpigeineephlaaW.PrintMore
attribute [local go_sem] max2_int min2_int max_two min_two max_three min_three max_four min_four   -- for this text's walks alone
set_option linter.unusedVariables false
set_option linter.unusedSimpArgs false

end Go.Proofs.Ytdpigeineephlaa.Prt
namespace Go.Proofs.Ytdpigeineephlaa.Prt
open Go.RowKit Go.Proofs.YtdpigeineephlaaW.PrintWords Go.Proofs.YtdpigeineephlaaW.PrintLast Go.Proofs.YtdpigeineephlaaW.PrintMore
attribute [local go_sem] max2_int min2_int max_two min_two max_three min_three max_four min_four   -- for this text's walks alone
set_option linter.unusedVariables false
set_option linter.unusedSimpArgs false

end Go.Proofs.Ytdpigeineephlaa.Prt
namespace Go.Proofs.Ytdpigeineephlaa.Prt
open Go.RowKit Go.Proofs.YtdpigeineephlaaW.PrintWords Go.Proofs.YtdpigeineephlaaW.PrintLast Go.Proofs.YtdpigeineephlaaW.PrintMore Go.Proofs.Ytdpigeineephlaa.Num Go.Proofs.Ytdpigeineephlaa.Nam
set_option linter.unusedVariables false
set_option linter.unusedSimpArgs false

end Go.Proofs.Ytdpigeineephlaa.Prt
namespace Go.Proofs.Ytdpigeineephlaa.Prt
open Go.RowKit Go.Proofs.YtdpigeineephlaaW.PrintWords Go.Proofs.YtdpigeineephlaaW.PrintLast Go.Proofs.YtdpigeineephlaaW.PrintMore
attribute [local go_sem] max2_int min2_int max_two min_two max_three min_three max_four min_four   -- for this text's walks alone
set_option linter.unusedVariables false
set_option linter.unusedSimpArgs false

end Go.Proofs.Ytdpigeineephlaa.Prt
namespace Go.Proofs.Ytdpigeineephlaa.Prt
open Go.RowKit Go.Proofs.YtdpigeineephlaaW.PrintWords Go.Proofs.YtdpigeineephlaaW.PrintLast Go.Proofs.YtdpigeineephlaaW.PrintMore Go.Proofs.Ytdpigeineephlaa.Num Go.Proofs.Ytdpigeineephlaa.Nam
set_option linter.unusedVariables false
set_option linter.unusedSimpArgs false

end Go.Proofs.Ytdpigeineephlaa.Prt
namespace Go.Proofs.Ytdpigeineephlaa.Prt
open Go.RowKit Go.Proofs.YtdpigeineephlaaW.PrintWords Go.Proofs.YtdpigeineephlaaW.PrintLast Go.Proofs.YtdpigeineephlaaW.PrintMore
attribute [local go_sem] max2_int min2_int max_two min_two max_three min_three max_four min_four   -- for this text's walks alone
set_option linter.unusedVariables false
set_option linter.unusedSimpArgs false

end Go.Proofs.Ytdpigeineephlaa.Prt
namespace Go.Proofs.Ytdpigeineephlaa.Prt
open Go.RowKit Go.Proofs.YtdpigeineephlaaW.PrintWords Go.Proofs.YtdpigeineephlaaW.PrintLast Go.Proofs.YtdpigeineephlaaW.PrintMore Go.Proofs.Ytdpigeineephlaa.Num Go.Proofs.Ytdpigeineephlaa.Nam
set_option linter.unusedVariables false
set_option linter.unusedSimpArgs false

end Go.Proofs.Ytdpigeineephlaa.Prt
namespace Go.Proofs.Ytdpigeineephlaa.Prt
open Go.RowKit Go.Proofs.YtdpigeineephlaaW.PrintWords Go.Proofs.YtdpigeineephlaaW.PrintLast Go.Proofs.YtdpigeineephlaaW.PrintMore
attribute [local go_sem] max2_int min2_int max_two min_two max_three min_three max_four min_four   -- for this text's walks alone
set_option linter.unusedVariables false
set_option linter.unusedSimpArgs false

end Go.Proofs.Ytdpigeineephlaa.Prt
namespace Go.Proofs.Ytdpigeineephlaa.Prt
open Go.RowKit Go.Proofs.YtdpigeineephlaaW.PrintWords Go.Proofs.YtdpigeineephlaaW.PrintLast Go.Proofs.YtdpigeineephlaaW.PrintMore Go.Proofs.Ytdpigeineephlaa.Num Go.Proofs.Ytdpigeineephlaa.Nam
set_option linter.unusedVariables false
set_option linter.unusedSimpArgs false

end Go.Proofs.Ytdpigeineephlaa.Prt
namespace Go.Proofs.Ytdpigeineephlaa.Prt
open Go.RowKit Go.Proofs.YtdpigeineephlaaW.PrintWords Go.Proofs.YtdpigeineephlaaW.PrintLast Go.Proofs.YtdpigeineephlaaW.PrintMore
attribute [local go_sem] max2_int min2_int max_two min_two max_three min_three max_four min_four   -- for this text's walks alone
set_option linter.unusedVariables false
set_option linter.unusedSimpArgs false

def qcode_PutDefs_1.f (l0 : List Int) (a1_0 : Int) (a1_1 : ByteArray) (l1_2 : List (S60)) : Option (List Int) := (num_Put.f l0 a1_0).bind fun t113 => ((num_PutText.f t113 a1_1).bind fun t116 => ((qcode_put.f t116 l1_2).bind fun t119 => (some t119)))
def qcode_PutDefs_1.T1 : Bool × List (List Nat × List Nat) := (true, [([], []), ([], []), ([1], [1]), ([0, 2], [0, 2]), ([], []), ([4], [4]), ([3, 5, 3], [3, 5]), ([], []), ([7], [7]), ([6, 8, 6], [6, 8]), ([9, 9, 0, 1, 2, 3, 4, 5, 6, 7, 8, 9], [9])])
def qcode_PutDefs_1.B1 : List Nat := [0, 0, 2, 7, 0, 16, 63, 0, 128, 511, 1023]
theorem qcode_PutDefs_1.tab1 : rtab .any (opsOf Try.f32 1) = qcode_PutDefs_1.T1 := by kernel_rfl
theorem qcode_PutDefs_1.bits1 : waitsOk qcode_PutDefs_1.T1.2 qcode_PutDefs_1.B1 = true := by kernel_rfl
set_option maxHeartbeats 8000000 in
set_option maxRecDepth 100000 in
theorem qcode_PutDefs_1.calls (A0 : Option Addr) (c0 : Nat) (l0 : List Int) (a1_0 : Int) (a1_1 : ByteArray) (A1_2 : Option Addr) (c1_2 : Nat) (l1_2 : List (S60)) (r : List Int) (w : World) (hr0 : Kd.C (Kd.int .u8) w A0 l0.length l0) (hc0 : l0.length ≤ c0) (hr1_2 : Kd.C k60 w A1_2 l1_2.length l1_2) (hc1_2 : l1_2.length ≤ c1_2) (h : qcode_PutDefs_1.f l0 a1_0 a1_1 l1_2 = some r) :
    Calls Try.prog 32 #[.slice A0 l0.length c0, .agg #[.int .i64 a1_0, .string a1_1, .slice A1_2 l1_2.length c1_2]] w fun e w' => ∃ v0_ : Value, e = .returned (v0_) ∧ Kd.R (Kd.int .u8) 5 w' w.heap.size (fun _ => True) v0_ r ∧ Below w.heap.size w w' := by
  have hu36 := Try.underlying36
  have hu25 := Try.underlying25
  have HR0 := Aside0.mk hr0
  have HC0 := Aside0.mk hc0
  clear hr0 hc0
  have HR1_2 := Aside0.mk hr1_2
  have HC1_2 := Aside0.mk hc1_2
  clear hr1_2 hc1_2
  have HB := Aside0.mk (Below.refl w.heap.size w)
  have H : ((num_Put.f l0 a1_0).bind fun t113 => ((num_PutText.f t113 a1_1).bind fun t116 => ((qcode_put.f t116 l1_2).bind fun t119 => (some t119)))) = some r := h
  clear h
  replace H := Option.bind_eq_some_iff.mp H
  obtain ⟨t113, A30, H⟩ := H
  replace H : ((num_PutText.f t113 a1_1).bind fun t116 => ((qcode_put.f t116 l1_2).bind fun t119 => (some t119))) = some r := H
  have A3 := Aside0.mk A30
  clear A30
  replace H := Option.bind_eq_some_iff.mp H
  obtain ⟨t116, A40, H⟩ := H
  replace H : ((qcode_put.f t116 l1_2).bind fun t119 => (some t119)) = some r := H
  have A4 := Aside0.mk A40
  clear A40
  replace H := Option.bind_eq_some_iff.mp H
  obtain ⟨t119, A50, H⟩ := H
  replace H : (some t119) = some r := H
  have A5 := Aside0.mk A50
  clear A50
  obtain rfl := Option.some.inj H
  go_enter Try.func32, Try.ntmps32
  try go_wp2_with (first | ((with_reducible refine gate_dst (N := 3) rfl ?_); refine box_event ?hg (N := 3) ?hd (cs := #[.int .i64 a1_0, .string a1_1, .slice A1_2 l1_2.length c1_2]) (t := 36) ?hr ?_; (case hd => rfl); (case hg => rfl); (case hr => first | (go_simp; done) | (go_simp; rfl)); intro gb112 hg w6 hbox hb; have n0_ := Aside0.mk (below_step (by repeat (first | (with_reducible first | exact HB.out | apply below_alloc | apply pw_below_drewN | apply below_drew1) | exact HB.out)) hb); have n1_ := Aside0.mk (hbox); have n2_ := Aside0.mk ((by rw [hg]; exact (below_size (by repeat (first | (with_reducible first | exact HB.out | apply below_alloc | apply pw_below_drewN | apply below_drew1) | exact HB.out))) : w.heap.size ≤ gb112)); have n3_ := Aside0.mk ((by rw [hg]; exact (below_size (by repeat (first | (with_reducible first | exact HB.out | apply below_alloc | apply pw_below_drewN | apply below_drew1) | exact HB.out))) : w.heap.size ≤ gb112)); clear HB; have HB := n0_; have BK112 := n1_; have GW112 := n2_; have GE112 := n3_; clear n0_ n1_ n2_ n3_; clear hb hbox hg))
  have n0_ := Aside0.mk (blk_drew BK112.out)
  have n1_ := Aside0.mk (below_drew1 HB.out)
  clear BK112
  clear HB
  have BK112 := n0_
  have HB := n1_
  clear n0_ n1_
  refine start_ (n := 11) (S := fun w' => w'.cell? ⟨gb112, 0, none⟩ = some (.int .i64 a1_0) ∧ w'.cell? ⟨gb112, 1, none⟩ = some (.string a1_1) ∧ w'.cell? ⟨gb112, 2, none⟩ = some (.slice A1_2 l1_2.length c1_2)) (ds := []) #[false, false, false, false, false, false, false, false, false, false, false] (by kernel_rfl) rfl rfl ⟨(blk_cell BK112.out 0).trans rfl, (blk_cell BK112.out 1).trans rfl, (blk_cell BK112.out 2).trans rfl⟩ (fun hHeld => ?_); refine with_tabW qcode_PutDefs_1.tab1 qcode_PutDefs_1.bits1 (fun HT_ HW_ => ?_)
  generalize w6.drew = w7 at BK112 HB hHeld ⊢
  refine pure_ (i := 0) (N := some 5) (v := ?_) (a' := ?_) #[true, false, false, false, false, false, false, false, false, false, false] rfl rfl (any_of HT_.out (by kernel_rfl)) (fun _ _ _ h => h) (Or.inl ⟨by rfl, ?_⟩) ?_ ?_
  rotate_left
  · intro w'
    go_simp
    with_reducible rfl
  rotate_left
  · simp only [Act.put, List.setIfInBounds_toArray, List.set_cons_zero, List.set_cons_succ, i64_w, i32_w]
    rfl
  refine pure_ (i := 1) (N := some 6) (v := ?_) (a' := ?_) #[true, true, false, false, false, false, false, false, false, false, false] rfl rfl (any_of HT_.out (by kernel_rfl)) (fun _ _ _ h => h) (Or.inl ⟨by rfl, ?_⟩) ?_ ?_
  rotate_left
  · intro w'
    go_simp
    with_reducible rfl
  rotate_left
  · simp only [Act.put, List.setIfInBounds_toArray, List.set_cons_zero, List.set_cons_succ, i64_w, i32_w]
    rfl
  refine pure_ (i := 4) (N := some 9) (v := ?_) (a' := ?_) #[true, true, false, false, true, false, false, false, false, false, false] rfl rfl (any_of HT_.out (by kernel_rfl)) (fun _ _ _ h => h) (Or.inl ⟨by rfl, ?_⟩) ?_ ?_
  rotate_left
  · intro w'
    go_simp
    with_reducible rfl
  rotate_left
  · simp only [Act.put, List.setIfInBounds_toArray, List.set_cons_zero, List.set_cons_succ, i64_w, i32_w]
    rfl
  refine pure_ (i := 7) (N := some 12) (v := ?_) (a' := ?_) #[true, true, false, false, true, false, false, true, false, false, false] rfl rfl (any_of HT_.out (by kernel_rfl)) (fun _ _ _ h => h) (Or.inl ⟨by rfl, ?_⟩) ?_ ?_
  rotate_left
  · intro w'
    go_simp
    with_reducible rfl
  rotate_left
  · simp only [Act.put, List.setIfInBounds_toArray, List.set_cons_zero, List.set_cons_succ, i64_w, i32_w]
    rfl
  refine take_ (i := 2) (N := some 7) (v := ?_) (a' := ?_) #[true, true, true, false, true, false, false, true, false, false, false] rfl rfl (take_ofW HT_.out HW_.out (by kernel_rfl)) (fun _ _ _ h => h) (Or.inl ⟨by rfl, ?_⟩) hHeld ?_ ?_
  rotate_left
  · rintro w' ⟨s0, s1, s2⟩
    go_simp
    with_reducible rfl
  rotate_left
  · simp only [Act.put, List.setIfInBounds_toArray, List.set_cons_zero, List.set_cons_succ, i64_w, i32_w]
    rfl
  refine take_ (i := 5) (N := some 10) (v := ?_) (a' := ?_) #[true, true, true, false, true, true, false, true, false, false, false] rfl rfl (take_ofW HT_.out HW_.out (by kernel_rfl)) (fun _ _ _ h => h) (Or.inl ⟨by rfl, ?_⟩) hHeld ?_ ?_
  rotate_left
  · rintro w' ⟨s0, s1, s2⟩
    go_simp
    with_reducible rfl
  rotate_left
  · simp only [Act.put, List.setIfInBounds_toArray, List.set_cons_zero, List.set_cons_succ, i64_w, i32_w]
    rfl
  refine take_ (i := 8) (N := some 13) (v := ?_) (a' := ?_) #[true, true, true, false, true, true, false, true, true, false, false] rfl rfl (take_ofW HT_.out HW_.out (by kernel_rfl)) (fun _ _ _ h => h) (Or.inl ⟨by rfl, ?_⟩) hHeld ?_ ?_
  rotate_left
  · rintro w' ⟨s0, s1, s2⟩
    go_simp
    with_reducible rfl
  rotate_left
  · simp only [Act.put, List.setIfInBounds_toArray, List.set_cons_zero, List.set_cons_succ, i64_w, i32_w]
    rfl
  refine one_ (i := 3) (N := some 8) #[true, true, true, true, true, true, false, true, true, false, false] rfl rfl (one_of HT_.out (by kernel_rfl)) (by decide) (fun K hK => ?_)
  refine goes_ Try.func34 (by kernel_rfl) rfl #[.slice A0 l0.length c0, .int .i64 a1_0] (by rfl) rfl rfl (by (try simp only [List.map_toArray, List.map_cons, List.map_nil]); first | done | rfl | (simp only [List.length_drop, List.length_take]; rfl)) ?_
  with_reducible refine (num_Put.calls _ _ l0 a1_0 t113 _ ?side1 ?side2 A3.out).mono ?_
  (case side1 => repeat (first | exact (Kd.C_below HR0.out HB.out) | (with_reducible refine Kd.C_alloc ?_ _) | (with_reducible refine Kd.C_drewN ?_ _) | (with_reducible refine Kd.C_drew ?_)))
  (case side2 => exact HC0.out)
  rintro e w8 ⟨v114, rfl, ho0, hb⟩
  refine ⟨_, rfl, ?_⟩
  have n0_ := Aside0.mk (Kd.R_lower ho0 (below_size (by repeat (first | (with_reducible first | exact HB.out | apply below_alloc | apply pw_below_drewN | apply below_drew1 | refine below_set ?_ GE112.out) | exact HB.out))))
  have n1_ := Aside0.mk (blk_below (g := gb112) (o := .cells #[.int .i64 a1_0, .string a1_1, .slice A1_2 l1_2.length c1_2] 36 (0, 0)) (by (with_reducible repeat (first | refine blk_drewN ?_ _ | refine blk_drew ?_ | refine blk_alloc ?_ _)); exact BK112.out) hb)
  have n2_ := Aside0.mk (below_step (by repeat (first | (with_reducible first | exact HB.out | apply below_alloc | apply pw_below_drewN | apply below_drew1 | refine below_set ?_ GE112.out) | exact HB.out)) hb)
  clear BK112
  clear HB
  have HO115 := n0_
  have BK112 := n1_
  have HB := n2_
  clear n0_ n1_ n2_
  (try clear hb)
  (try clear hb2)
  (try clear hk)
  (try clear hi)
  (try clear ho0)
  obtain ⟨Ao9, co9, eo9⟩ := Kd.R_slice HO115.out
  (first | subst eo9 | (injection eo9 with f1_ f2_ f3_; have f4_ := f1_.symm; have f5_ := f3_.symm; clear f1_ f2_ f3_; subst f4_; subst f5_))
  refine hK.out _ _ ⟨(blk_cell BK112.out 0).trans rfl, (blk_cell BK112.out 1).trans rfl, (blk_cell BK112.out 2).trans rfl⟩ (fun hHeld => ?_)
  clear hK K
  refine norm_ (a' := ?_) ?_ ?_
  rotate_left
  · show Act.put _ (some 8) _ = _
    simp only [Act.put, List.setIfInBounds_toArray, List.set_cons_zero, List.set_cons_succ, i64_w, i32_w]
    rfl
  refine one_ (i := 6) (N := some 11) #[true, true, true, true, true, true, true, true, true, false, false] rfl rfl (one_of HT_.out (by kernel_rfl)) (by decide) (fun K hK => ?_)
  refine goes_ Try.func33 (by kernel_rfl) rfl #[.slice Ao9 t113.length co9, .string a1_1] (by rfl) rfl rfl (by (try simp only [List.map_toArray, List.map_cons, List.map_nil]); first | done | rfl | (simp only [List.length_drop, List.length_take]; rfl)) ?_
  with_reducible refine (num_PutText.calls _ _ t113 a1_1 t116 _ ?side1 ?side2 A4.out).mono ?_
  (case side1 => repeat (first | exact (Kd.R_reads' HO115.out).2.2 | (with_reducible refine Kd.C_alloc ?_ _) | (with_reducible refine Kd.C_drewN ?_ _) | (with_reducible refine Kd.C_drew ?_)))
  (case side2 => exact (Kd.R_reads' HO115.out).2.1)
  rintro e w10 ⟨v117, rfl, ho0, hb⟩
  refine ⟨_, rfl, ?_⟩
  have n0_ := Aside0.mk (Kd.R_elder' (by (with_reducible repeat (first | apply Kd.R_alloc | apply Kd.R_drewN | apply Kd.R_drew)); exact HO115.out) (Kd.R_base ho0) hb)
  have n1_ := Aside0.mk (Kd.R_lower (Kd.R_new' ho0 (Kd.R_lt (by (with_reducible repeat (first | apply Kd.R_alloc | apply Kd.R_drewN | apply Kd.R_drew)); exact HO115.out))) (below_size (by repeat (first | (with_reducible first | exact HB.out | apply below_alloc | apply pw_below_drewN | apply below_drew1 | refine below_set ?_ GE112.out) | exact HB.out))))
  have n2_ := Aside0.mk (blk_below (g := gb112) (o := .cells #[.int .i64 a1_0, .string a1_1, .slice A1_2 l1_2.length c1_2] 36 (0, 0)) (by (with_reducible repeat (first | refine blk_drewN ?_ _ | refine blk_drew ?_ | refine blk_alloc ?_ _)); exact BK112.out) hb)
  have n3_ := Aside0.mk (below_step (by repeat (first | (with_reducible first | exact HB.out | apply below_alloc | apply pw_below_drewN | apply below_drew1 | refine below_set ?_ GE112.out) | exact HB.out)) hb)
  clear HO115
  clear BK112
  clear HB
  have HO115 := n0_
  have HO118 := n1_
  have BK112 := n2_
  have HB := n3_
  clear n0_ n1_ n2_ n3_
  (try clear hb)
  (try clear hb2)
  (try clear hk)
  (try clear hi)
  (try clear ho0)
  obtain ⟨Ao11, co11, eo11⟩ := Kd.R_slice HO118.out
  (first | subst eo11 | (injection eo11 with f1_ f2_ f3_; have f4_ := f1_.symm; have f5_ := f3_.symm; clear f1_ f2_ f3_; subst f4_; subst f5_))
  refine hK.out _ _ ⟨(blk_cell BK112.out 0).trans rfl, (blk_cell BK112.out 1).trans rfl, (blk_cell BK112.out 2).trans rfl⟩ (fun hHeld => ?_)
  clear hK K
  refine norm_ (a' := ?_) ?_ ?_
  rotate_left
  · show Act.put _ (some 11) _ = _
    simp only [Act.put, List.setIfInBounds_toArray, List.set_cons_zero, List.set_cons_succ, i64_w, i32_w]
    rfl
  refine one_ (i := 9) (N := some 14) #[true, true, true, true, true, true, true, true, true, true, false] rfl rfl (one_of HT_.out (by kernel_rfl)) (by decide) (fun K hK => ?_)
  refine goes_ Try.func27 (by kernel_rfl) rfl #[.slice Ao11 t116.length co11, .agg #[.slice A1_2 l1_2.length c1_2]] (by rfl) rfl rfl (by (try simp only [List.map_toArray, List.map_cons, List.map_nil]); first | done | rfl | (simp only [List.length_drop, List.length_take]; rfl)) ?_
  with_reducible refine (qcode_put.calls _ _ t116 _ _ l1_2 t119 _ ?side1 ?side2 ?side3 ?side4 A5.out).mono ?_
  (case side1 => repeat (first | exact (Kd.R_reads' HO118.out).2.2 | (with_reducible refine Kd.C_alloc ?_ _) | (with_reducible refine Kd.C_drewN ?_ _) | (with_reducible refine Kd.C_drew ?_)))
  (case side2 => exact (Kd.R_reads' HO118.out).2.1)
  (case side3 => repeat (first | exact (Kd.C_below HR1_2.out HB.out) | (with_reducible refine Kd.C_alloc ?_ _) | (with_reducible refine Kd.C_drewN ?_ _) | (with_reducible refine Kd.C_drew ?_)))
  (case side4 => exact HC1_2.out)
  rintro e w12 ⟨v120, rfl, ho0, hb⟩
  refine ⟨_, rfl, ?_⟩
  have n0_ := Aside0.mk (Kd.R_elder' (by (with_reducible repeat (first | apply Kd.R_alloc | apply Kd.R_drewN | apply Kd.R_drew)); exact HO115.out) (Kd.R_base ho0) hb)
  have n1_ := Aside0.mk (Kd.R_elder' (by (with_reducible repeat (first | apply Kd.R_alloc | apply Kd.R_drewN | apply Kd.R_drew)); exact HO118.out) (Kd.R_base ho0) hb)
  have n2_ := Aside0.mk (Kd.R_lower (Kd.R_new' (Kd.R_new' ho0 (Kd.R_lt (by (with_reducible repeat (first | apply Kd.R_alloc | apply Kd.R_drewN | apply Kd.R_drew)); exact HO115.out))) (Kd.R_lt (by (with_reducible repeat (first | apply Kd.R_alloc | apply Kd.R_drewN | apply Kd.R_drew)); exact HO118.out))) (below_size (by repeat (first | (with_reducible first | exact HB.out | apply below_alloc | apply pw_below_drewN | apply below_drew1 | refine below_set ?_ GE112.out) | exact HB.out))))
  have n3_ := Aside0.mk (blk_below (g := gb112) (o := .cells #[.int .i64 a1_0, .string a1_1, .slice A1_2 l1_2.length c1_2] 36 (0, 0)) (by (with_reducible repeat (first | refine blk_drewN ?_ _ | refine blk_drew ?_ | refine blk_alloc ?_ _)); exact BK112.out) hb)
  have n4_ := Aside0.mk (below_step (by repeat (first | (with_reducible first | exact HB.out | apply below_alloc | apply pw_below_drewN | apply below_drew1 | refine below_set ?_ GE112.out) | exact HB.out)) hb)
  clear HO115
  clear HO118
  clear BK112
  clear HB
  have HO115 := n0_
  have HO118 := n1_
  have HO121 := n2_
  have BK112 := n3_
  have HB := n4_
  clear n0_ n1_ n2_ n3_ n4_
  (try clear hb)
  (try clear hb2)
  (try clear hk)
  (try clear hi)
  (try clear ho0)
  refine hK.out _ _ ⟨(blk_cell BK112.out 0).trans rfl, (blk_cell BK112.out 1).trans rfl, (blk_cell BK112.out 2).trans rfl⟩ (fun hHeld => ?_)
  clear hK K
  refine norm_ (a' := ?_) ?_ ?_
  rotate_left
  · show Act.put _ (some 14) _ = _
    simp only [Act.put, List.setIfInBounds_toArray, List.set_cons_zero, List.set_cons_succ, i64_w, i32_w]
    rfl
  refine pure_ (i := 10) (N := some 4) (v := ?_) (a' := ?_) #[true, true, true, true, true, true, true, true, true, true, true] rfl rfl (any_of HT_.out (by kernel_rfl)) (fun _ _ _ h => h) (Or.inl ⟨by rfl, ?_⟩) ?_ ?_
  rotate_left
  · intro w'
    go_simp
    with_reducible rfl
  rotate_left
  · simp only [Act.put, List.setIfInBounds_toArray, List.set_cons_zero, List.set_cons_succ, i64_w, i32_w]
    rfl
  refine done_ (done_of HT_.out (by kernel_rfl)) ?_
  try go_wp2
  go_ret
  exact ⟨_, by first | rfl | (simp [errW_none, errW_some] <;> rfl) | (simp [*, errW_none, errW_some] <;> rfl), by (with_reducible repeat (first | apply Kd.R_alloc | apply Kd.R_drewN | apply Kd.R_drew)); exact Kd.R_mono HO121.out (fun _ hk => trivial), by repeat (first | (with_reducible first | exact HB.out | apply below_alloc | apply pw_below_drewN | apply below_drew1 | refine below_set ?_ GE112.out) | exact HB.out)⟩

end Go.Proofs.Ytdpigeineephlaa.Prt
namespace Go.Proofs.Ytdpigeineephlaa.Nam
open Go.RowKit Go.Proofs.YtdpigeineephlaaW.PrintWords Go.Proofs.YtdpigeineephlaaW.PrintLast Go.Proofs.YtdpigeineephlaaW.PrintMore Go.Proofs.Ytdpigeineephlaa.Num Go.Proofs.Ytdpigeineephlaa.Prt
set_option linter.unusedVariables false
set_option linter.unusedSimpArgs false

theorem def_val {l : List Int} {x : S36} (h : OkD x) (hl : l.length + (encD x).length ≤ 1000000000000) : qcode_PutDefs_1.f l x.f0 x.f1 x.f2.f0 = some (l ++ encD x) := by
  have k1 := h.k1
  have k4 := h.k4
  have hs := h.size
  unfold encD at hl ⊢
  rw [List.length_append, List.length_append] at hl
  have m1 : num_Put.f l x.f0 = some (l ++ enc x.f0) := if_pos ⟨by omega, by omega, by omega⟩
  have m2 : num_PutText.f (l ++ enc x.f0) x.f1 = some ((l ++ enc x.f0) ++ encT (bytesOf x.f1)) := if_pos (by rw [List.length_append]; omega)
  have m3 : qcode_put.f ((l ++ enc x.f0) ++ encT (bytesOf x.f1)) x.f2.f0 = some (((l ++ enc x.f0) ++ encT (bytesOf x.f1)) ++ encQ x.f2.f0) := if_pos (by rw [List.length_append, List.length_append]; omega)
  unfold qcode_PutDefs_1.f
  rw [m1]
  simp only [Option.bind_some]
  rw [m2]
  simp only [Option.bind_some]
  rw [m3]
  simp only [Option.bind_some, List.append_assoc]
set_option maxRecDepth 100000 in
theorem putDefs_calls (A : Option Addr) (c : Nat) (l : List S36) (w : World) (hr : Kd.C k36 w A l.length l) (hc : l.length ≤ c) (hf : ∀ x ∈ l, fitD x = true) (r1 : List Int) (r2 : Int) (h : putDs l = (r1, r2)) :
    Calls Try.prog 13 #[.slice A l.length c] w fun e w' => ∃ v, e = .returned (.tuple #[v, .int .i64 r2]) ∧ Kd.R (Kd.int .u8) 5 w' w.heap.size (fun _ => True) v r1 ∧ Below w.heap.size w w' := by
  have hu36 := Try.underlying36
  have hu25 := Try.underlying25
  have HC := Aside0.mk hr
  have HF := Aside0.mk hf
  have HH := Aside0.mk h
  have hm := Kd.C_max hr
  clear hr hc hf h
  go_enter Try.func13, Try.ntmps13
  by_cases h4 : 4 < l.length
  · have d1 : decide ((4 : Int) < (l.length : Int)) = true := decide_eq_true (by omega)
    have HG := Aside0.mk (show r1 = [] ∧ r2 = 3 by have h := HH.out; unfold putDs at h; rw [if_pos h4] at h; obtain ⟨a, b⟩ := Prod.mk.inj h; exact ⟨a.symm, b.symm⟩)
    go_wp2
    go_ret2
    obtain ⟨rfl, rfl⟩ := HG.out
    exact ⟨_, rfl, Kd.R_nil _ _ _ _ _, Below.refl _ _⟩
  have d1 : decide ((4 : Int) < (l.length : Int)) = false := decide_eq_false (by omega)
  have HH2 : Aside0 ((r1, r2) = if firstD l ≠ 0 then (([] : List Int), firstD l) else (encDs l, 0)) := ⟨by rw [← HH.out]; unfold putDs; rw [if_neg h4]⟩
  clear HH
  go_wp2_with fail
  go_loopg [12] (l.length + 1) (fun k v12 w' => ∃ i : Nat, v12 = .int .i64 (i : Int) ∧ Aside0 (i + k = l.length + 1) ∧ Aside0 (firstD (l.drop i) = firstD l) ∧ Aside0 (Below w.heap.size w w'))
  case atStart => exact ⟨0, rfl, ⟨by omega⟩, ⟨by rw [List.drop_zero]⟩, ⟨Below.refl _ _⟩⟩
  case round =>
    obtain ⟨i, rfl, HI, HFE, HB⟩ := hrel
    by_cases hi : i < l.length
    · have d3 : decide ((i : Int) < (l.length : Int)) = true := decide_eq_true (by omega)
      obtain ⟨ad, P2, q2, e_, hx, hx1, hx2, hl2, hi2⟩ := at_T36 (Kd.C_below HC.out HB.out) (i : Int) (by omega) (by omega)
      cases e_
      rw [Int.toNat_natCast] at hx hx1 hx2
      obtain ⟨x, hx0⟩ : ∃ x, x = rd_T36 l (i : Int) := ⟨_, rfl⟩
      rw [← hx0] at hx hx1 hx2 hl2 hi2
      have hxm : x ∈ l := by rw [hx0]; exact rdD_mem hi
      have HX := Aside0.mk hx0
      have HI2 := Aside0.mk hi2
      have HL2 := Aside0.mk hl2
      have HIL := Aside0.mk hi
      have HMD : Aside0 (qcode_MayDefG.f x.f0 x.f1 x.f2.f0 = some (defE x)) := ⟨if_pos (fitD_iff.1 (HF.out x hxm))⟩
      clear hx0 hi2 hl2 hxm
      go_upto_region 6 with (first | ((with_reducible refine gate_dst (N := 5) rfl ?_); (try (refine gate_guard (by rfl) ?_; dsimp only)); refine box_event ?hg (N := 5) ?hd (cs := #[.int .i64 0, .string (⟨#[]⟩ : ByteArray), .slice none 0 0]) (t := 36) ?hr ?_; (case hd => rfl); (case hg => rfl); (case hr => first | (go_simp; done) | (go_simp; rfl)); intro B hg_ w2 hbox_ hb_; have HBE := Aside0.mk hbox_; have HBM := Aside0.mk hg_; have HBD := Aside0.mk hb_; clear hbox_ hg_ hb_; have hq0 := blk_cell HBE.out 0; have hz0 := blk_frozen HBE.out 0; have hq1 := blk_cell HBE.out 1; have hz1 := blk_frozen HBE.out 1; have hq2 := blk_cell HBE.out 2; have hz2 := blk_frozen HBE.out 2))
      have HGB := Aside0.mk (show w.heap.size ≤ B ∧ wr.heap.size ≤ B from ⟨by rw [HBM.out]; exact HB.out.size, by rw [HBM.out]; exact Nat.le_refl _⟩)
      have n2_ := Aside0.mk ((((below_step HB.out HBD.out).setCell (p := ⟨B, 0, none⟩) HGB.out.1 (.int .i64 x.f0)).setCell (p := ⟨B, 1, none⟩) HGB.out.1 (.string x.f1)).setCell (p := ⟨B, 2, none⟩) HGB.out.1 (.slice P2 x.f2.f0.length q2))
      have n3_ := Aside0.mk (((HBD.out.setCell (p := ⟨B, 0, none⟩) HGB.out.2 (.int .i64 x.f0)).setCell (p := ⟨B, 1, none⟩) HGB.out.2 (.string x.f1)).setCell (p := ⟨B, 2, none⟩) HGB.out.2 (.slice P2 x.f2.f0.length q2))
      have n4_ := Aside0.mk (blk_put (cs' := #[.int .i64 x.f0, .string x.f1, .slice P2 x.f2.f0.length q2]) (blk_put (cs' := #[.int .i64 x.f0, .string x.f1, .slice none 0 0]) (blk_put (cs' := #[.int .i64 x.f0, .string (⟨#[]⟩ : ByteArray), .slice none 0 0]) HBE.out 0 (.int .i64 x.f0) rfl) 1 (.string x.f1) rfl) 2 (.slice P2 x.f2.f0.length q2) rfl)
      clear HBE HBD hq0 hq1 hq2 hz0 hz1 hz2 hx hx1 hx2 HB
      generalize ((w2.setCell ⟨B, 0, none⟩ (.int .i64 x.f0)).setCell ⟨B, 1, none⟩ (.string x.f1)).setCell ⟨B, 2, none⟩ (.slice P2 x.f2.f0.length q2) = w3 at n2_ n3_ n4_ ⊢
      have hq0 := blk_cell n4_.out 0
      have hq1 := blk_cell n4_.out 1
      have hq2 := blk_cell n4_.out 2
      go_wp2_with fail
      refine (qcode_MayDefG.calls x.f0 x.f1 P2 q2 x.f2.f0 (defE x) w3 (Kd.C_below HI2.out n3_.out) HL2.out HMD.out).mono ?_
      rintro e w4 ⟨rfl, hb⟩
      have HB := Aside0.mk (below_step n2_.out hb)
      clear n2_ n3_ n4_ hq0 hq1 hq2 hb HMD
      obtain ⟨v, hv⟩ : ∃ v, v = defE x := ⟨_, rfl⟩
      rw [← hv]
      have HV := Aside0.mk hv
      clear hv
      by_cases hv0 : v = 0
      · have b1 : (v != 0) = false := bne_eq_false_iff_eq.mpr hv0
        have HFN := Aside0.mk (show firstD (l.drop (i + 1)) = firstD l by rw [← firstD_yes HIL.out (by rw [← HX.out, ← HV.out]; exact hv0)]; exact HFE.out)
        clear hv0
        go_wp2_with fail
        go_roundg (l.length - i)
        case measure => have := HI.out; omega
        case rel => exact ⟨i + 1, by go_num, ⟨by have := HI.out; omega⟩, HFN, HB⟩
      · have b1 : (v != 0) = true := bne_iff_ne.mpr hv0
        have HR := Aside0.mk (show r1 = [] ∧ r2 = v by
          have h := HH2.out
          have e : firstD l = v := by rw [← HFE.out, firstD_no HIL.out (by rw [← HX.out, ← HV.out]; exact hv0), ← HX.out, HV.out]
          rw [e, if_pos hv0] at h
          exact Prod.mk.inj h)
        clear hv0
        go_wp2_with fail
        go_ret2
        obtain ⟨rfl, rfl⟩ := HR.out
        exact ⟨_, rfl, Kd.R_nil _ _ _ _ _, HB.out⟩
    · have d3 : decide ((i : Int) < (l.length : Int)) = false := decide_eq_false (by omega)
      have HFZ : Aside0 (firstD l = 0) := ⟨by rw [← HFE.out, List.drop_eq_nil_of_le (by omega)]; rfl⟩
      have HOK := Aside0.mk (firstD_zero.1 HFZ.out)
      have HR := Aside0.mk (show r1 = encDs l ∧ r2 = 0 by
        have h := HH2.out
        rw [if_neg (by rw [HFZ.out]; simp)] at h
        exact Prod.mk.inj h)
      have hz := encDs_size (l := l) (by omega) HOK.out
      have hz2 : ([] : List Int).length + ((enc (l.length : Int)).length + (l.flatMap encD).length) ≤ 1000000000000 := by unfold encDs at hz; rw [List.length_append] at hz; simp only [List.length_nil]; omega
      have HLD := Aside0.mk (listDef encD 32 none 0 [] A c l wr (Kd.C_nil _ _) (Nat.le_refl _) (Kd.C_below HC.out HB.out) hz2 (enters_of Try.func32 (by kernel_rfl) rfl) (fun x hx w1 _ A' c' l' h1 h2 h3 P2 q2 g2 g3 => qcode_PutDefs_1.calls A' c' l' x.f0 x.f1 P2 q2 x.f2.f0 (l' ++ encD x) w1 h1 h2 g2 g3 (def_val (HOK.out x hx) h3)))
      clear hz hz2
      go_wp2_with fail
      refine HLD.out.mono ?_
      rintro e w4 ⟨v, rfl, ho, hb⟩
      have HO := Aside0.mk (Kd.R_lower ho HB.out.size)
      have HB4 := Aside0.mk (below_step HB.out hb)
      clear ho hb
      go_wp2_with fail
      go_ret2
      obtain ⟨rfl, rfl⟩ := HR.out
      exact ⟨_, rfl, HO.out, HB4.out⟩
end Go.Proofs.Ytdpigeineephlaa.Nam
namespace Go.Proofs.Ytdpigeineephlaa.Prt
open Go.RowKit Go.Proofs.YtdpigeineephlaaW.PrintWords Go.Proofs.YtdpigeineephlaaW.PrintLast Go.Proofs.YtdpigeineephlaaW.PrintMore Go.Proofs.Ytdpigeineephlaa.Num Go.Proofs.Ytdpigeineephlaa.Nam
set_option linter.unusedVariables false
set_option linter.unusedSimpArgs false
def qcode_PutDefs.f (l0 : List S36) : Option (List Int × Int) := if l0.all fitD = true then some (putDs l0) else none
theorem qcode_PutDefs.calls (A0 : Option Addr) (c0 : Nat) (l0 : List (S36)) (r1 : List Int) (r2 : Int) (w : World) (hr0 : Kd.C k36 w A0 l0.length l0) (hc0 : l0.length ≤ c0) (h : qcode_PutDefs.f l0 = some (r1, r2)) :
    Calls Try.prog 13 #[.slice A0 l0.length c0] w fun e w' => ∃ v0_ : Value, e = .returned (.tuple #[v0_, .int .i64 r2]) ∧ Kd.R (Kd.int .u8) 5 w' w.heap.size (fun _ => True) v0_ r1 ∧ Below w.heap.size w w' := by
  unfold qcode_PutDefs.f at h
  by_cases hc : l0.all fitD = true
  · rw [if_pos hc] at h
    exact putDefs_calls A0 c0 l0 w hr0 hc0 (List.all_eq_true.1 hc) r1 r2 (Option.some.inj h)
  · rw [if_neg hc] at h; cases h
end Go.Proofs.Ytdpigeineephlaa.Prt
namespace Go.Proofs.Ytdpigeineephlaa.Prt
open Go.RowKit Go.Proofs.YtdpigeineephlaaW.PrintWords Go.Proofs.YtdpigeineephlaaW.PrintLast Go.Proofs.YtdpigeineephlaaW.PrintMore
attribute [local go_sem] max2_int min2_int max_two min_two max_three min_three max_four min_four   -- for this text's walks alone
set_option linter.unusedVariables false
set_option linter.unusedSimpArgs false

def qcode_Put.f (l0 : List Int) (l1_0 : List (S60)) : Option (List Int × Int) := (query_May.f l1_0).bind fun t123 => (if t123 = 0 then ((qcode_put.f l0 l1_0).bind fun t124 => (some (t124, 0))) else (some (([] : List Int), t123)))
set_option maxHeartbeats 8000000 in
set_option maxRecDepth 100000 in
theorem qcode_Put.calls (A0 : Option Addr) (c0 : Nat) (l0 : List Int) (A1_0 : Option Addr) (c1_0 : Nat) (l1_0 : List (S60)) (r1 : List Int) (r2 : Int) (w : World) (hr0 : Kd.C (Kd.int .u8) w A0 l0.length l0) (hc0 : l0.length ≤ c0) (hr1_0 : Kd.C k60 w A1_0 l1_0.length l1_0) (hc1_0 : l1_0.length ≤ c1_0) (h : qcode_Put.f l0 l1_0 = some (r1, r2)) :
    Calls Try.prog 10 #[.slice A0 l0.length c0, .agg #[.slice A1_0 l1_0.length c1_0]] w fun e w' => ∃ v0_ : Value, e = .returned (.tuple #[v0_, .int .i64 r2]) ∧ Kd.R (Kd.int .u8) 5 w' w.heap.size (fun _ => True) v0_ r1 ∧ Below w.heap.size w w' := by
  have hu25 := Try.underlying25
  have HR0 := Aside0.mk hr0
  have HC0 := Aside0.mk hc0
  clear hr0 hc0
  have HR1_0 := Aside0.mk hr1_0
  have HC1_0 := Aside0.mk hc1_0
  clear hr1_0 hc1_0
  have HB := Aside0.mk (Below.refl w.heap.size w)
  have H : ((query_May.f l1_0).bind fun t123 => (if t123 = 0 then ((qcode_put.f l0 l1_0).bind fun t124 => (some (t124, 0))) else (some (([] : List Int), t123)))) = some (r1, r2) := h
  clear h
  replace H := Option.bind_eq_some_iff.mp H
  obtain ⟨t123, A30, H⟩ := H
  replace H : (if t123 = 0 then ((qcode_put.f l0 l1_0).bind fun t124 => (some (t124, 0))) else (some (([] : List Int), t123))) = some (r1, r2) := H
  have A3 := Aside0.mk A30
  clear A30
  by_cases c4 : t123 = 0
  · rw [if_pos c4] at H
    have c4b0 : (t123 == 0) = true := beq_iff_eq.mpr c4
    have c4b1 : (t123 != 0) = false := bne_eq_false_iff_eq.mpr c4
    clear c4
    replace H := Option.bind_eq_some_iff.mp H
    obtain ⟨t124, A50, H⟩ := H
    replace H : (some (t124, 0)) = some (r1, r2) := H
    have A5 := Aside0.mk A50
    clear A50
    simp only [Option.some.injEq, Prod.mk.injEq] at H
    obtain ⟨rfl, rfl⟩ := H
    go_enter Try.func10, Try.ntmps10
    go_wp2_with (first | ((with_reducible refine gate_dst (N := 3) rfl ?_); refine box_event ?hg (N := 3) ?hd (cs := #[.slice A1_0 l1_0.length c1_0]) (t := 25) ?hr ?_; (case hd => rfl); (case hg => rfl); (case hr => first | (go_simp; done) | (go_simp; rfl)); intro gb122 hg w6 hbox hb; have n0_ := Aside0.mk (below_step (by repeat (first | (with_reducible first | exact HB.out | apply below_alloc | apply pw_below_drewN | apply below_drew1) | exact HB.out)) hb); have n1_ := Aside0.mk (hbox); have n2_ := Aside0.mk ((by rw [hg]; exact (below_size (by repeat (first | (with_reducible first | exact HB.out | apply below_alloc | apply pw_below_drewN | apply below_drew1) | exact HB.out))) : w.heap.size ≤ gb122)); have n3_ := Aside0.mk ((by rw [hg]; exact (below_size (by repeat (first | (with_reducible first | exact HB.out | apply below_alloc | apply pw_below_drewN | apply below_drew1) | exact HB.out))) : w.heap.size ≤ gb122)); clear HB; have HB := n0_; have BK122 := n1_; have GW122 := n2_; have GE122 := n3_; clear n0_ n1_ n2_ n3_; clear hb hbox hg; have hcz7_0 : w6.cell? ⟨gb122, 0, none⟩ = some (.slice A1_0 l1_0.length c1_0) := (blk_cell BK122.out 0).trans rfl; have hfz7_0 := blk_frozen BK122.out 0) | ((with_reducible refine gate_callee (f := 26) rfl ?_); refine goesL_ (some 8) rfl rfl Try.func26 (by kernel_rfl) rfl #[.agg #[.slice A1_0 l1_0.length c1_0]] rfl (by (try simp only [List.map_toArray, List.map_cons, List.map_nil]); first | done | rfl | (simp only [List.length_drop, List.length_take]; rfl)) ?_; (with_reducible refine (query_May.calls _ _ l1_0 t123 _ ?side1 ?side2 A3.out).mono ?_); (case side1 => repeat (first | exact (Kd.C_below HR1_0.out HB.out) | (with_reducible refine Kd.C_alloc ?_ _) | (with_reducible refine Kd.C_drewN ?_ _) | (with_reducible refine Kd.C_drew ?_))); (case side2 => exact HC1_0.out); rintro e w8 ⟨rfl, hb⟩; refine ⟨_, rfl, ?_⟩; have n0_ := Aside0.mk (blk_below (g := gb122) (o := .cells #[.slice A1_0 l1_0.length c1_0] 25 (0, 0)) (by (with_reducible repeat (first | refine blk_drewN ?_ _ | refine blk_drew ?_ | refine blk_alloc ?_ _)); exact BK122.out) hb); have n1_ := Aside0.mk (below_step (by repeat (first | (with_reducible first | exact HB.out | apply below_alloc | apply pw_below_drewN | apply below_drew1 | refine below_set ?_ GE122.out) | exact HB.out)) hb); clear BK122; clear HB; have BK122 := n0_; have HB := n1_; clear n0_ n1_; (try clear hb); (try clear hb2); (try clear hk); (try clear hi); have hcz9_0 : w8.cell? ⟨gb122, 0, none⟩ = some (.slice A1_0 l1_0.length c1_0) := (blk_cell BK122.out 0).trans rfl; have hfz9_0 := blk_frozen BK122.out 0) | ((with_reducible refine gate_callee (f := 27) rfl ?_); refine goesL_ (some 14) rfl rfl Try.func27 (by kernel_rfl) rfl #[.slice A0 l0.length c0, .agg #[.slice A1_0 l1_0.length c1_0]] rfl (by (try simp only [List.map_toArray, List.map_cons, List.map_nil]); first | done | rfl | (simp only [List.length_drop, List.length_take]; rfl)) ?_; (with_reducible refine (qcode_put.calls _ _ l0 _ _ l1_0 t124 _ ?side1 ?side2 ?side3 ?side4 A5.out).mono ?_); (case side1 => repeat (first | exact (Kd.C_below HR0.out HB.out) | (with_reducible refine Kd.C_alloc ?_ _) | (with_reducible refine Kd.C_drewN ?_ _) | (with_reducible refine Kd.C_drew ?_))); (case side2 => exact HC0.out); (case side3 => repeat (first | exact (Kd.C_below HR1_0.out HB.out) | (with_reducible refine Kd.C_alloc ?_ _) | (with_reducible refine Kd.C_drewN ?_ _) | (with_reducible refine Kd.C_drew ?_))); (case side4 => exact HC1_0.out); rintro e w10 ⟨v125, rfl, ho0, hb⟩; refine ⟨_, rfl, ?_⟩; have n0_ := Aside0.mk (Kd.R_lower ho0 (below_size (by repeat (first | (with_reducible first | exact HB.out | apply below_alloc | apply pw_below_drewN | apply below_drew1 | refine below_set ?_ GE122.out) | exact HB.out)))); have n1_ := Aside0.mk (blk_below (g := gb122) (o := .cells #[.slice A1_0 l1_0.length c1_0] 25 (0, 0)) (by (with_reducible repeat (first | refine blk_drewN ?_ _ | refine blk_drew ?_ | refine blk_alloc ?_ _)); exact BK122.out) hb); have n2_ := Aside0.mk (below_step (by repeat (first | (with_reducible first | exact HB.out | apply below_alloc | apply pw_below_drewN | apply below_drew1 | refine below_set ?_ GE122.out) | exact HB.out)) hb); clear BK122; clear HB; have HO126 := n0_; have BK122 := n1_; have HB := n2_; clear n0_ n1_ n2_; (try clear hb); (try clear hb2); (try clear hk); (try clear hi); (try clear ho0)))
    go_ret2
    exact ⟨_, by first | rfl | (simp [errW_none, errW_some] <;> rfl) | (simp [*, errW_none, errW_some] <;> rfl), by (with_reducible repeat (first | apply Kd.R_alloc | apply Kd.R_drewN | apply Kd.R_drew)); exact HO126.out, by repeat (first | (with_reducible first | exact HB.out | apply below_alloc | apply pw_below_drewN | apply below_drew1 | refine below_set ?_ GE122.out) | exact HB.out)⟩
  · rw [if_neg c4] at H
    have c4b0 : (t123 == 0) = false := beq_eq_false_iff_ne.mpr c4
    have c4b1 : (t123 != 0) = true := bne_iff_ne.mpr c4
    simp only [Option.some.injEq, Prod.mk.injEq] at H
    obtain ⟨rfl, rfl⟩ := H
    go_enter Try.func10, Try.ntmps10
    go_wp2_with (first | ((with_reducible refine gate_dst (N := 3) rfl ?_); refine box_event ?hg (N := 3) ?hd (cs := #[.slice A1_0 l1_0.length c1_0]) (t := 25) ?hr ?_; (case hd => rfl); (case hg => rfl); (case hr => first | (go_simp; done) | (go_simp; rfl)); intro gb122 hg w11 hbox hb; have n0_ := Aside0.mk (below_step (by repeat (first | (with_reducible first | exact HB.out | apply below_alloc | apply pw_below_drewN | apply below_drew1) | exact HB.out)) hb); have n1_ := Aside0.mk (hbox); have n2_ := Aside0.mk ((by rw [hg]; exact (below_size (by repeat (first | (with_reducible first | exact HB.out | apply below_alloc | apply pw_below_drewN | apply below_drew1) | exact HB.out))) : w.heap.size ≤ gb122)); have n3_ := Aside0.mk ((by rw [hg]; exact (below_size (by repeat (first | (with_reducible first | exact HB.out | apply below_alloc | apply pw_below_drewN | apply below_drew1) | exact HB.out))) : w.heap.size ≤ gb122)); clear HB; have HB := n0_; have BK122 := n1_; have GW122 := n2_; have GE122 := n3_; clear n0_ n1_ n2_ n3_; clear hb hbox hg; have hcz12_0 : w11.cell? ⟨gb122, 0, none⟩ = some (.slice A1_0 l1_0.length c1_0) := (blk_cell BK122.out 0).trans rfl; have hfz12_0 := blk_frozen BK122.out 0) | ((with_reducible refine gate_callee (f := 26) rfl ?_); refine goesL_ (some 8) rfl rfl Try.func26 (by kernel_rfl) rfl #[.agg #[.slice A1_0 l1_0.length c1_0]] rfl (by (try simp only [List.map_toArray, List.map_cons, List.map_nil]); first | done | rfl | (simp only [List.length_drop, List.length_take]; rfl)) ?_; (with_reducible refine (query_May.calls _ _ l1_0 t123 _ ?side1 ?side2 A3.out).mono ?_); (case side1 => repeat (first | exact (Kd.C_below HR1_0.out HB.out) | (with_reducible refine Kd.C_alloc ?_ _) | (with_reducible refine Kd.C_drewN ?_ _) | (with_reducible refine Kd.C_drew ?_))); (case side2 => exact HC1_0.out); rintro e w13 ⟨rfl, hb⟩; refine ⟨_, rfl, ?_⟩; have n0_ := Aside0.mk (blk_below (g := gb122) (o := .cells #[.slice A1_0 l1_0.length c1_0] 25 (0, 0)) (by (with_reducible repeat (first | refine blk_drewN ?_ _ | refine blk_drew ?_ | refine blk_alloc ?_ _)); exact BK122.out) hb); have n1_ := Aside0.mk (below_step (by repeat (first | (with_reducible first | exact HB.out | apply below_alloc | apply pw_below_drewN | apply below_drew1 | refine below_set ?_ GE122.out) | exact HB.out)) hb); clear BK122; clear HB; have BK122 := n0_; have HB := n1_; clear n0_ n1_; (try clear hb); (try clear hb2); (try clear hk); (try clear hi)))
    go_ret2
    exact ⟨_, by first | rfl | (simp [errW_none, errW_some] <;> rfl) | (simp [*, errW_none, errW_some] <;> rfl), by first | exact Kd.R_nil _ _ _ _ _ | exact Kd.N_nil _ _ _ _ _ | exact Kd.V_nil _ _ _ _ _ | exact Kd.Q_nil _ _ _ _ _ | exact Kd.S_nil _ _ _ _ _, by repeat (first | (with_reducible first | exact HB.out | apply below_alloc | apply pw_below_drewN | apply below_drew1 | refine below_set ?_ GE122.out) | exact HB.out)⟩

end Go.Proofs.Ytdpigeineephlaa.Prt
namespace Go.Proofs.Ytdpigeineephlaa.Prt
open Go.RowKit Go.Proofs.YtdpigeineephlaaW.PrintWords Go.Proofs.YtdpigeineephlaaW.PrintLast Go.Proofs.YtdpigeineephlaaW.PrintMore
attribute [local go_sem] max2_int min2_int max_two min_two max_three min_three max_four min_four   -- for this text's walks alone
set_option linter.unusedVariables false
set_option linter.unusedSimpArgs false

def registrarlaw07_shown.f  : Option (Bool) := (qcode_Put.f ([] : List Int) (([(⟨([] : List ByteArray), ([] : List ByteArray)⟩ : S60)] : List (S60)))).bind fun bt130 => (if (strOfNums bt130.1).toList = ([2, 0, 0] : List UInt8) then (some (bt130.2 == 0)) else (some false))
set_option maxHeartbeats 8000000 in
set_option maxRecDepth 100000 in
theorem registrarlaw07_shown.calls  (r : Bool) (w : World) (h : registrarlaw07_shown.f  = some r) :
    Calls Try.prog 9 #[] w fun e w' => e = .returned (.bool r) ∧ Below w.heap.size w w' := by
  have hu60 := Try.underlying60
  have hu25 := Try.underlying25
  have HB := Aside0.mk (Below.refl w.heap.size w)
  have H : ((qcode_Put.f ([] : List Int) (([(⟨([] : List ByteArray), ([] : List ByteArray)⟩ : S60)] : List (S60)))).bind fun bt130 => (if (strOfNums bt130.1).toList = ([2, 0, 0] : List UInt8) then (some (bt130.2 == 0)) else (some false))) = some r := h
  clear h
  obtain ⟨y127, hy127⟩ : ∃ y_ : List (S60), y_ = (([(⟨([] : List ByteArray), ([] : List ByteArray)⟩ : S60)] : List (S60))) := ⟨_, rfl⟩
  replace H : ((qcode_Put.f ([] : List Int) y127).bind fun bt130 => (if (strOfNums bt130.1).toList = ([2, 0, 0] : List UInt8) then (some (bt130.2 == 0)) else (some false))) = some r := by first | (rw [hy127]; with_reducible exact H) | (have H2_ := (Option.bind_some _ _).symm.trans H; rw [hy127]; with_reducible exact H2_) | (have H2_ := (Option.bind_some _ _).symm.trans H; with_reducible exact H2_) | with_reducible exact H | (rw [hy127]; exact H) | exact H
  have Ny127 := Aside0.mk hy127
  clear hy127
  replace H := Option.bind_eq_some_iff.mp H
  obtain ⟨⟨t130, t133⟩, A10, H⟩ := H
  replace H : (if (strOfNums t130).toList = ([2, 0, 0] : List UInt8) then (some (t133 == 0)) else (some false)) = some r := H
  have A1 := Aside0.mk A10
  clear A10
  by_cases c2 : (strOfNums t130).toList = ([2, 0, 0] : List UInt8)
  · rw [if_pos c2] at H
    have c2b0 : ((strOfNums t130).toList == ([2, 0, 0] : List UInt8)) = true := beq_iff_eq.mpr c2
    have c2b1 : ((strOfNums t130).toList != ([2, 0, 0] : List UInt8)) = false := bne_eq_false_iff_eq.mpr c2
    clear c2
    obtain rfl := Option.some.inj H
    go_enter Try.func9, Try.ntmps9
    go_wp2_with (first | ((with_reducible refine gate_dst (N := 5) rfl ?_); refine Kd.S_lit k60 _ 60 ?hg (N := 5) ?hd (xs := ([(⟨([] : List ByteArray), ([] : List ByteArray)⟩ : S60)] : List (S60))) (inner := [.slice none 0 0, .slice none 0 0]) (ok := fun _ => True) (okp := fun _ => True) ?hr ?hp (fun _ hk => hk) trivial (Below.refl _ _) (Nat.le_refl _) (by simp) ?_; (case hd => rfl); (case hg => rfl); (case hr => first | (go_simp; done) | (go_simp; rfl)); (case hp => exact (Reps.c2 (show Kd.M k60 _ _ _ (⟨([] : List ByteArray), ([] : List ByteArray)⟩ : S60) [.slice none 0 0, .slice none 0 0] from (k60_mkM _ _ _ (⟨([] : List ByteArray), ([] : List ByteArray)⟩ : S60) (Kd.R_nil _ _ _ _ _) (Kd.R_nil _ _ _ _ _))) (Reps.none _ _))); intro v128 w3 ho4 hb hg_ hnew_; clear hg_ hnew_; (first | rw [← Ny127.out] at ho4 | (simp only [Int.reduceToNat] at ho4; rw [← Ny127.out] at ho4)); have n0_ := Aside0.mk (Kd.S_lower ho4 (below_size (by repeat (first | (with_reducible first | exact HB.out | apply below_alloc | apply pw_below_drewN | apply below_drew1) | exact HB.out)))); have n1_ := Aside0.mk (below_step (by repeat (first | (with_reducible first | exact HB.out | apply below_alloc | apply pw_below_drewN | apply below_drew1) | exact HB.out)) hb); clear HB; have HO129 := n0_; have HB := n1_; clear n0_ n1_; clear hb ho4; obtain ⟨Ao5, co5, eo5⟩ := Kd.S_slice HO129.out; subst eo5) | ((with_reducible refine gate_callee (f := 10) rfl ?_); refine goesL_ (some 7) rfl rfl Try.func10 (by kernel_rfl) rfl #[.slice none 0 0, .agg #[.slice Ao5 y127.length co5]] rfl (by (try simp only [List.map_toArray, List.map_cons, List.map_nil]); first | done | rfl | (simp only [List.length_drop, List.length_take]; rfl)) ?_; (refine (qcode_Put.calls _ _ ([] : List Int) _ _ y127 t130 t133 _ ?side1 ?side2 ?side3 ?side4 A1.out).mono ?_); (case side1 => exact Kd.C_nil _ _); (case side2 => exact Nat.le_refl _); (case side3 => repeat (first | exact (Kd.S_reads' HO129.out).2.2 | (with_reducible refine Kd.C_alloc ?_ _) | (with_reducible refine Kd.C_drewN ?_ _) | (with_reducible refine Kd.C_drew ?_))); (case side4 => exact (Kd.S_reads' HO129.out).2.1); rintro e w6 ⟨v131, rfl, ho0, hb⟩; refine ⟨_, rfl, ?_⟩; have n0_ := Aside0.mk (Kd.S_below (by (with_reducible repeat (first | apply Kd.S_alloc | apply Kd.S_drewN | apply Kd.S_drew)); exact HO129.out) hb); have n1_ := Aside0.mk (Kd.R_lower ho0 (below_size (by repeat (first | (with_reducible first | exact HB.out | apply below_alloc | apply pw_below_drewN | apply below_drew1) | exact HB.out)))); have n2_ := Aside0.mk (below_step (by repeat (first | (with_reducible first | exact HB.out | apply below_alloc | apply pw_below_drewN | apply below_drew1) | exact HB.out)) hb); clear HO129; clear HB; have HO129 := n0_; have HO132 := n1_; have HB := n2_; clear n0_ n1_ n2_; (try clear hb); (try clear hb2); (try clear hk); (try clear hi); (try clear ho0); have hcv7 := own_string (P := Try.prog) Try.underlying22 Try.underlying5 Try.underlying9 (Kd.own_of_R HO132.out)))
    go_ret
    exact ⟨by first | rfl | (simp [errW_none, errW_some] <;> rfl) | (simp [*, errW_none, errW_some] <;> rfl), by repeat (first | (with_reducible first | exact HB.out | apply below_alloc | apply pw_below_drewN | apply below_drew1) | exact HB.out)⟩
  · rw [if_neg c2] at H
    have c2b0 : ((strOfNums t130).toList == ([2, 0, 0] : List UInt8)) = false := beq_eq_false_iff_ne.mpr c2
    have c2b1 : ((strOfNums t130).toList != ([2, 0, 0] : List UInt8)) = true := bne_iff_ne.mpr c2
    obtain rfl := Option.some.inj H
    go_enter Try.func9, Try.ntmps9
    go_wp2_with (first | ((with_reducible refine gate_dst (N := 5) rfl ?_); refine Kd.S_lit k60 _ 60 ?hg (N := 5) ?hd (xs := ([(⟨([] : List ByteArray), ([] : List ByteArray)⟩ : S60)] : List (S60))) (inner := [.slice none 0 0, .slice none 0 0]) (ok := fun _ => True) (okp := fun _ => True) ?hr ?hp (fun _ hk => hk) trivial (Below.refl _ _) (Nat.le_refl _) (by simp) ?_; (case hd => rfl); (case hg => rfl); (case hr => first | (go_simp; done) | (go_simp; rfl)); (case hp => exact (Reps.c2 (show Kd.M k60 _ _ _ (⟨([] : List ByteArray), ([] : List ByteArray)⟩ : S60) [.slice none 0 0, .slice none 0 0] from (k60_mkM _ _ _ (⟨([] : List ByteArray), ([] : List ByteArray)⟩ : S60) (Kd.R_nil _ _ _ _ _) (Kd.R_nil _ _ _ _ _))) (Reps.none _ _))); intro v128 w8 ho9 hb hg_ hnew_; clear hg_ hnew_; (first | rw [← Ny127.out] at ho9 | (simp only [Int.reduceToNat] at ho9; rw [← Ny127.out] at ho9)); have n0_ := Aside0.mk (Kd.S_lower ho9 (below_size (by repeat (first | (with_reducible first | exact HB.out | apply below_alloc | apply pw_below_drewN | apply below_drew1) | exact HB.out)))); have n1_ := Aside0.mk (below_step (by repeat (first | (with_reducible first | exact HB.out | apply below_alloc | apply pw_below_drewN | apply below_drew1) | exact HB.out)) hb); clear HB; have HO129 := n0_; have HB := n1_; clear n0_ n1_; clear hb ho9; obtain ⟨Ao10, co10, eo10⟩ := Kd.S_slice HO129.out; subst eo10) | ((with_reducible refine gate_callee (f := 10) rfl ?_); refine goesL_ (some 7) rfl rfl Try.func10 (by kernel_rfl) rfl #[.slice none 0 0, .agg #[.slice Ao10 y127.length co10]] rfl (by (try simp only [List.map_toArray, List.map_cons, List.map_nil]); first | done | rfl | (simp only [List.length_drop, List.length_take]; rfl)) ?_; (refine (qcode_Put.calls _ _ ([] : List Int) _ _ y127 t130 t133 _ ?side1 ?side2 ?side3 ?side4 A1.out).mono ?_); (case side1 => exact Kd.C_nil _ _); (case side2 => exact Nat.le_refl _); (case side3 => repeat (first | exact (Kd.S_reads' HO129.out).2.2 | (with_reducible refine Kd.C_alloc ?_ _) | (with_reducible refine Kd.C_drewN ?_ _) | (with_reducible refine Kd.C_drew ?_))); (case side4 => exact (Kd.S_reads' HO129.out).2.1); rintro e w11 ⟨v131, rfl, ho0, hb⟩; refine ⟨_, rfl, ?_⟩; have n0_ := Aside0.mk (Kd.S_below (by (with_reducible repeat (first | apply Kd.S_alloc | apply Kd.S_drewN | apply Kd.S_drew)); exact HO129.out) hb); have n1_ := Aside0.mk (Kd.R_lower ho0 (below_size (by repeat (first | (with_reducible first | exact HB.out | apply below_alloc | apply pw_below_drewN | apply below_drew1) | exact HB.out)))); have n2_ := Aside0.mk (below_step (by repeat (first | (with_reducible first | exact HB.out | apply below_alloc | apply pw_below_drewN | apply below_drew1) | exact HB.out)) hb); clear HO129; clear HB; have HO129 := n0_; have HO132 := n1_; have HB := n2_; clear n0_ n1_ n2_; (try clear hb); (try clear hb2); (try clear hk); (try clear hi); (try clear ho0); have hcv12 := own_string (P := Try.prog) Try.underlying22 Try.underlying5 Try.underlying9 (Kd.own_of_R HO132.out)))
    go_ret
    exact ⟨by first | rfl | (simp [errW_none, errW_some] <;> rfl) | (simp [*, errW_none, errW_some] <;> rfl), by repeat (first | (with_reducible first | exact HB.out | apply below_alloc | apply pw_below_drewN | apply below_drew1) | exact HB.out)⟩

end Go.Proofs.Ytdpigeineephlaa.Prt
namespace Go.Proofs.Ytdpigeineephlaa.Prt
open Go.RowKit Go.Proofs.YtdpigeineephlaaW.PrintWords Go.Proofs.YtdpigeineephlaaW.PrintLast Go.Proofs.YtdpigeineephlaaW.PrintMore
attribute [local go_sem] max2_int min2_int max_two min_two max_three min_three max_four min_four   -- for this text's walks alone
set_option linter.unusedVariables false
set_option linter.unusedSimpArgs false

mutual
def registrarlaw07_few.l0 : Nat → Int → List (S60) → List (S60) → Option ((List (S60)))
  | 0, _, _, _ => none
  | k + 1, x4, x135000, x137000 => if x4 < (x135000.length : Int) then (registrarlaw07_few.j1 k x4 (decide (x4 < 8)) x135000 x137000) else (registrarlaw07_few.j1 k x4 false x135000 x137000)
def registrarlaw07_few.j1 : Nat → Int → Bool → List (S60) → List (S60) → Option ((List (S60)))
  | 0, _, _, _, _ => none
  | k + 1, x4, x15, x135000, x137000 => if x15 = true then (if 0 ≤ x4 then (if x4 < (x135000.length : Int) then (if (((rd_T60 x135000 x4).f0).length : Int) > 8 then (if 8 ≤ (((rd_T60 x135000 x4).f0).length : Int) then ((some (((rd_T60 x135000 x4).f0).take 8 : List ByteArray)).bind fun y139 => (if (((rd_T60 x135000 x4).f1).length : Int) > 8 then (if 8 ≤ (((rd_T60 x135000 x4).f1).length : Int) then (if x137000.length < 2932031007402 then (registrarlaw07_few.l0 k (wrap64 (x4 + 1)) x135000 (x137000 ++ [(⟨y139, (((rd_T60 x135000 x4).f1).take 8)⟩ : S60)])) else (none)) else (none)) else (if x137000.length < 2932031007402 then (registrarlaw07_few.l0 k (wrap64 (x4 + 1)) x135000 (x137000 ++ [(⟨y139, (rd_T60 x135000 x4).f1⟩ : S60)])) else (none)))) else (none)) else (if (((rd_T60 x135000 x4).f1).length : Int) > 8 then (if 8 ≤ (((rd_T60 x135000 x4).f1).length : Int) then (if x137000.length < 2932031007402 then (registrarlaw07_few.l0 k (wrap64 (x4 + 1)) x135000 (x137000 ++ [(⟨(rd_T60 x135000 x4).f0, (((rd_T60 x135000 x4).f1).take 8)⟩ : S60)])) else (none)) else (none)) else (if x137000.length < 2932031007402 then (registrarlaw07_few.l0 k (wrap64 (x4 + 1)) x135000 (x137000 ++ [(⟨(rd_T60 x135000 x4).f0, (rd_T60 x135000 x4).f1⟩ : S60)])) else (none)))) else (none)) else (none)) else (some x137000)
end
def registrarlaw07_few.f (k : Nat) (l0_0 : List (S60)) : Option ((List (S60))) := registrarlaw07_few.l0 k 0 l0_0 ([] : List (S60))
set_option maxHeartbeats 8000000 in
set_option maxRecDepth 100000 in
theorem registrarlaw07_few.calls (k : Nat) (P0_0_ : Nat → Prop) (A0_0 : Option Addr) (c0_0 : Nat) (l0_0 : List (S60)) (r : List (S60)) (w : World) (hs0_0 : Kd.V k60 60 w w.heap.size (fun k_ => P0_0_ k_) (.slice A0_0 l0_0.length c0_0) l0_0) (h : registrarlaw07_few.f k l0_0 = some r) :
    Calls Try.prog 11 #[.agg #[.slice A0_0 l0_0.length c0_0]] w fun e w' => ∃ v0_ : Value, e = .returned (.agg #[v0_]) ∧ Kd.N k60 60 w' w.heap.size (fun k_ => (P0_0_ k_ ∨ w.heap.size ≤ k_)) v0_ r ∧ Below w.heap.size w w' := by
  have hu25 := Try.underlying25
  have hu60 := Try.underlying60
  have HO0_0 := Aside0.mk (show Kd.V k60 60 w w.heap.size (fun k_ => (P0_0_ k_ ∨ w.heap.size ≤ k_)) (.slice A0_0 l0_0.length c0_0) l0_0 from Kd.V_mono hs0_0 (fun k_ hk => .inl hk))
  have HB := Aside0.mk (Below.refl w.heap.size w)
  have H : (registrarlaw07_few.l0 k 0 l0_0 ([] : List (S60))) = some r := h
  clear h
  have H' := Aside0.mk H
  clear H
  go_enter Try.func11, Try.ntmps11
  go_wp2_with (first | ((with_reducible refine gate_dst (N := 1) rfl ?_); refine box_event ?hg (N := 1) ?hd (cs := #[.slice A0_0 l0_0.length c0_0]) (t := 25) ?hr ?_; (case hd => rfl); (case hg => rfl); (case hr => first | (go_simp; done) | (go_simp; rfl)); intro gb134 hg w2 hbox hb; have n0_ := Aside0.mk (Kd.V_below (Kd.V_elderB (by (with_reducible repeat (first | apply Kd.V_alloc | apply Kd.V_drewN | apply Kd.V_drew)); exact HO0_0.out) gb134 (Nat.le_of_eq hg.symm)) hb); have n1_ := Aside0.mk (below_step (by repeat (first | (with_reducible first | exact HB.out | apply below_alloc | apply pw_below_drewN | apply below_drew1) | exact HB.out)) hb); have n2_ := Aside0.mk (hbox); have n3_ := Aside0.mk ((by rw [hg]; exact (below_size (by repeat (first | (with_reducible first | exact HB.out | apply below_alloc | apply pw_below_drewN | apply below_drew1) | exact HB.out))) : w.heap.size ≤ gb134)); have n4_ := Aside0.mk ((by rw [hg]; exact (below_size (by repeat (first | (with_reducible first | exact HB.out | apply below_alloc | apply pw_below_drewN | apply below_drew1) | exact HB.out))) : w.heap.size ≤ gb134)); clear HO0_0; clear HB; have HO0_0 := n0_; have HB := n1_; have BK134 := n2_; have GW134 := n3_; have GE134 := n4_; clear n0_ n1_ n2_ n3_ n4_; clear hb hbox hg) | ((with_reducible refine gate_dst (N := 2) rfl ?_); refine box_event ?hg (N := 2) ?hd (cs := #[.slice none 0 0]) (t := 25) ?hr ?_; (case hd => rfl); (case hg => rfl); (case hr => first | (go_simp; done) | (go_simp; rfl)); intro gb135 hg w3 hbox hb; have n0_ := Aside0.mk (Kd.V_below (Kd.V_elderB (by (with_reducible repeat (first | apply Kd.V_alloc | apply Kd.V_drewN | apply Kd.V_drew)); exact HO0_0.out) gb135 (Nat.le_of_eq hg.symm)) hb); have n1_ := Aside0.mk (blk_below (g := gb134) (o := .cells #[.slice A0_0 l0_0.length c0_0] 25 (0, 0)) (by (with_reducible repeat (first | refine blk_drewN ?_ _ | refine blk_drew ?_ | refine blk_alloc ?_ _)); exact BK134.out) hb); have n2_ := Aside0.mk (below_step (by repeat (first | (with_reducible first | exact HB.out | apply below_alloc | apply pw_below_drewN | apply below_drew1 | refine below_set ?_ GE134.out) | exact HB.out)) hb); have n3_ := Aside0.mk (hbox); have n4_ := Aside0.mk ((by rw [hg]; exact (below_size (by repeat (first | (with_reducible first | exact HB.out | apply below_alloc | apply pw_below_drewN | apply below_drew1 | refine below_set ?_ GE134.out) | exact HB.out))) : w.heap.size ≤ gb135)); have n5_ := Aside0.mk ((by rw [hg]; exact (below_size (by repeat (first | (with_reducible first | exact HB.out | apply below_alloc | apply pw_below_drewN | apply below_drew1 | refine below_set ?_ GE134.out) | exact HB.out))) : w.heap.size ≤ gb135)); have n6_ := Aside0.mk ((by rw [hg]; exact Nat.ne_of_lt (blk_lt (g := gb134) (o := .cells #[.slice A0_0 l0_0.length c0_0] 25 (0, 0)) (by (with_reducible repeat (first | refine blk_drewN ?_ _ | refine blk_drew ?_ | refine blk_alloc ?_ _)); exact BK134.out)) : gb134 ≠ gb135)); have n7_ := Aside0.mk ((by rw [hg]; exact Nat.ne_of_gt (blk_lt (g := gb134) (o := .cells #[.slice A0_0 l0_0.length c0_0] 25 (0, 0)) (by (with_reducible repeat (first | refine blk_drewN ?_ _ | refine blk_drew ?_ | refine blk_alloc ?_ _)); exact BK134.out)) : gb135 ≠ gb134)); clear HO0_0; clear BK134; clear HB; have HO0_0 := n0_; have BK134 := n1_; have HB := n2_; have BK135 := n3_; have GW135 := n4_; have GE135 := n5_; have NB134_135 := n6_; have NB135_134 := n7_; clear n0_ n1_ n2_ n3_ n4_ n5_ n6_ n7_; clear hb hbox hg) | ((with_reducible refine gate_dst (N := 3) rfl ?_); refine box_event ?hg (N := 3) ?hd (cs := #[.slice none 0 0]) (t := 25) ?hr ?_; (case hd => rfl); (case hg => rfl); (case hr => first | (go_simp; done) | (go_simp; rfl)); intro gb136 hg w4 hbox hb; have n0_ := Aside0.mk (Kd.V_below (Kd.V_elderB (by (with_reducible repeat (first | apply Kd.V_alloc | apply Kd.V_drewN | apply Kd.V_drew)); exact HO0_0.out) gb136 (Nat.le_of_eq hg.symm)) hb); have n1_ := Aside0.mk (blk_below (g := gb134) (o := .cells #[.slice A0_0 l0_0.length c0_0] 25 (0, 0)) (by (with_reducible repeat (first | refine blk_drewN ?_ _ | refine blk_drew ?_ | refine blk_alloc ?_ _)); exact BK134.out) hb); have n2_ := Aside0.mk (blk_below (g := gb135) (o := .cells #[.slice none 0 0] 25 (0, 0)) (by (with_reducible repeat (first | refine blk_drewN ?_ _ | refine blk_drew ?_ | refine blk_alloc ?_ _)); exact BK135.out) hb); have n3_ := Aside0.mk (below_step (by repeat (first | (with_reducible first | exact HB.out | apply below_alloc | apply pw_below_drewN | apply below_drew1 | refine below_set ?_ GE134.out | refine below_set ?_ GE135.out) | exact HB.out)) hb); have n4_ := Aside0.mk (hbox); have n5_ := Aside0.mk ((by rw [hg]; exact (below_size (by repeat (first | (with_reducible first | exact HB.out | apply below_alloc | apply pw_below_drewN | apply below_drew1 | refine below_set ?_ GE134.out | refine below_set ?_ GE135.out) | exact HB.out))) : w.heap.size ≤ gb136)); have n6_ := Aside0.mk ((by rw [hg]; exact (below_size (by repeat (first | (with_reducible first | exact HB.out | apply below_alloc | apply pw_below_drewN | apply below_drew1 | refine below_set ?_ GE134.out | refine below_set ?_ GE135.out) | exact HB.out))) : w.heap.size ≤ gb136)); have n7_ := Aside0.mk ((by rw [hg]; exact Nat.ne_of_lt (blk_lt (g := gb134) (o := .cells #[.slice A0_0 l0_0.length c0_0] 25 (0, 0)) (by (with_reducible repeat (first | refine blk_drewN ?_ _ | refine blk_drew ?_ | refine blk_alloc ?_ _)); exact BK134.out)) : gb134 ≠ gb136)); have n8_ := Aside0.mk ((by rw [hg]; exact Nat.ne_of_gt (blk_lt (g := gb134) (o := .cells #[.slice A0_0 l0_0.length c0_0] 25 (0, 0)) (by (with_reducible repeat (first | refine blk_drewN ?_ _ | refine blk_drew ?_ | refine blk_alloc ?_ _)); exact BK134.out)) : gb136 ≠ gb134)); have n9_ := Aside0.mk ((by rw [hg]; exact Nat.ne_of_lt (blk_lt (g := gb135) (o := .cells #[.slice none 0 0] 25 (0, 0)) (by (with_reducible repeat (first | refine blk_drewN ?_ _ | refine blk_drew ?_ | refine blk_alloc ?_ _)); exact BK135.out)) : gb135 ≠ gb136)); have n10_ := Aside0.mk ((by rw [hg]; exact Nat.ne_of_gt (blk_lt (g := gb135) (o := .cells #[.slice none 0 0] 25 (0, 0)) (by (with_reducible repeat (first | refine blk_drewN ?_ _ | refine blk_drew ?_ | refine blk_alloc ?_ _)); exact BK135.out)) : gb136 ≠ gb135)); clear HO0_0; clear BK134; clear BK135; clear HB; have HO0_0 := n0_; have BK134 := n1_; have BK135 := n2_; have HB := n3_; have BK136 := n4_; have GW136 := n5_; have GE136 := n6_; have NB134_136 := n7_; have NB136_134 := n8_; have NB135_136 := n9_; have NB136_135 := n10_; clear n0_ n1_ n2_ n3_ n4_ n5_ n6_ n7_ n8_ n9_ n10_; clear hb hbox hg; have hnb5 := NB136_134.out; have hnc5 := NB134_136.out; have hnb6 := NB136_135.out; have hnc6 := NB135_136.out; have hcz7_0 : w4.cell? ⟨gb136, 0, none⟩ = some (.slice none 0 0) := (blk_cell BK136.out 0).trans rfl; have hfz7_0 := blk_frozen BK136.out 0))
  go_loopg [4] k (fun kq v4 w' => ∃ (x4_1 : Int) (x137000_1 : List (S60)) (u137000 : Value), v4 = .int .i64 x4_1 ∧ Aside0 (registrarlaw07_few.l0 kq x4_1 l0_0 x137000_1 = some r) ∧ Aside0 (kq ≤ k) ∧ Aside0 (Kd.V k60 60 w' w.heap.size (fun k_ => (P0_0_ k_ ∨ w.heap.size ≤ k_) ∧ some k_ ≠ (u137000 : Value).ownBlock ∧ k_ ≠ gb134 ∧ k_ ≠ gb135 ∧ k_ ≠ gb136) (.slice A0_0 l0_0.length c0_0) l0_0) ∧ Aside0 (Kd.N k60 60 w' w.heap.size (fun k_ => (P0_0_ k_ ∨ w.heap.size ≤ k_) ∧ k_ ≠ gb134 ∧ k_ ≠ gb135 ∧ k_ ≠ gb136) u137000 x137000_1) ∧ Aside0 (w'.heap[gb134]? = some (.cells #[(.slice A0_0 l0_0.length c0_0)] 25 (0, 0))) ∧ Aside0 (w'.heap[gb135]? = some (.cells #[(.slice none 0 0)] 25 (0, 0))) ∧ Aside0 (w'.heap[gb136]? = some (.cells #[u137000] 25 (0, 0))) ∧ Aside0 (Below w.heap.size w w'))
  case atStart => exact ⟨(0), (([] : List (S60))), (.slice none 0 0), (by first | rfl | (simp; done) | (simp [*]; done)), H', ⟨Nat.le_refl _⟩, ⟨by (with_reducible repeat (first | apply Kd.V_alloc | apply Kd.V_drewN | apply Kd.V_drew)); exact Kd.V_mono (Kd.V_far (p := ⟨gb136, 0, none⟩) (Kd.V_mono HO0_0.out (fun k_ hk => (⟨hk, hk.2⟩ : _ ∧ k_ ≠ gb136))) (fun _ hk => hk.2) (.slice none 0 0)) (fun _ hk => ⟨hk.1.1.1.1, ⟨(by simp [Value.ownBlock]), ⟨hk.1.1.1.2, ⟨hk.1.1.2, hk.1.2⟩⟩⟩⟩)⟩, ⟨by first | exact Kd.S_nil _ _ _ _ _ | exact Kd.N_nil _ _ _ _ _ | exact Kd.V_nil _ _ _ _ _ | exact Kd.Q_nil _ _ _ _ _ | exact Kd.R_nil _ _ _ _ _⟩, ⟨by (with_reducible repeat (first | refine blk_drewN ?_ _ | refine blk_drew ?_ | refine blk_alloc ?_ _)); refine blk_far ?_ NB134_136.out _; (with_reducible repeat (first | refine blk_drewN ?_ _ | refine blk_drew ?_ | refine blk_alloc ?_ _)); exact BK134.out⟩, ⟨by (with_reducible repeat (first | refine blk_drewN ?_ _ | refine blk_drew ?_ | refine blk_alloc ?_ _)); refine blk_far ?_ NB135_136.out _; (with_reducible repeat (first | refine blk_drewN ?_ _ | refine blk_drew ?_ | refine blk_alloc ?_ _)); exact BK135.out⟩, ⟨by (with_reducible repeat (first | refine blk_drewN ?_ _ | refine blk_drew ?_ | refine blk_alloc ?_ _)); refine blk_put (cs := #[.slice none 0 0]) ?_ 0 _ rfl; (with_reducible repeat (first | refine blk_drewN ?_ _ | refine blk_drew ?_ | refine blk_alloc ?_ _)); exact BK136.out⟩, ⟨by repeat (first | (with_reducible first | exact HB.out | apply below_alloc | apply pw_below_drewN | apply below_drew1 | refine below_set ?_ GE134.out | refine below_set ?_ GE135.out | refine below_set ?_ GE136.out) | exact HB.out)⟩⟩
  case round =>
    clear H'
    try clear c1
    try clear p2
    try clear c5
    try clear c6
    try clear hcz7_0
    try clear hfz7_0
    obtain ⟨x4_1, x137000_1, u137000, rfl, HA, HK1, HO_135000, HO_137000, BK134, BK135, BK136, HB⟩ := hrel
    cases gk with
    | zero => exact absurd HA.out (by simp [registrarlaw07_few.l0])
    | succ k1 =>
      have H := HA.out
      clear HA
      simp only [registrarlaw07_few.l0] at H
      have HC8 := Aside0.mk H
      clear H
      go_upto_region 3 with (fail)
      go_cut [15] (fun v15 wc => ∃ (kq : Nat) (x15_7 : Bool), v15 = .bool x15_7 ∧ Aside0 (registrarlaw07_few.j1 kq x4_1 x15_7 l0_0 x137000_1 = some r) ∧ Aside0 (kq ≤ k1) ∧ Aside0 (Kd.V k60 60 wc w.heap.size (fun k_ => (P0_0_ k_ ∨ w.heap.size ≤ k_) ∧ some k_ ≠ (u137000 : Value).ownBlock ∧ k_ ≠ gb134 ∧ k_ ≠ gb135 ∧ k_ ≠ gb136) (.slice A0_0 l0_0.length c0_0) l0_0) ∧ Aside0 (Kd.N k60 60 wc w.heap.size (fun k_ => (P0_0_ k_ ∨ w.heap.size ≤ k_) ∧ k_ ≠ gb134 ∧ k_ ≠ gb135 ∧ k_ ≠ gb136) u137000 x137000_1) ∧ Aside0 (wc.heap[gb134]? = some (.cells #[(.slice A0_0 l0_0.length c0_0)] 25 (0, 0))) ∧ Aside0 (wc.heap[gb135]? = some (.cells #[(.slice none 0 0)] 25 (0, 0))) ∧ Aside0 (wc.heap[gb136]? = some (.cells #[u137000] 25 (0, 0))) ∧ Aside0 (Below w.heap.size w wc))
      case first =>
        have H := HC8.out
        clear HC8
        by_cases c9 : x4_1 < (l0_0.length : Int)
        · rw [if_pos c9] at H
          have c9b0 : decide (x4_1 < (l0_0.length : Int)) = true := decide_eq_true c9
          clear c9
          (first | rw [c9b0] | (simp only [i64_w, i32_w]; rw [c9b0]) | skip)
          have H' := Aside0.mk H
          clear H
          have hnb10 := NB134_135.out
          have hnc10 := NB135_134.out
          have hnb11 := NB134_136.out
          have hnc11 := NB136_134.out
          have hcz12_0 : wr.cell? ⟨gb134, 0, none⟩ = some (.slice A0_0 l0_0.length c0_0) := (blk_cell BK134.out 0).trans rfl
          have hfz12_0 := blk_frozen BK134.out 0
          go_wp2
          go_meet
          case rel => exact ⟨_, (decide (x4_1 < 8)), (by first | rfl | (simp; done) | (simp [*]; done)), H', ⟨by have := HK1.out; first | omega | exact Nat.le_refl _⟩, ⟨by (with_reducible repeat (first | apply Kd.V_alloc | apply Kd.V_drewN | apply Kd.V_drew)); exact HO_135000.out⟩, ⟨by (with_reducible repeat (first | apply Kd.N_alloc | apply Kd.N_drewN | apply Kd.N_drew)); exact HO_137000.out⟩, ⟨by (with_reducible repeat (first | refine blk_drewN ?_ _ | refine blk_drew ?_ | refine blk_alloc ?_ _)); exact BK134.out⟩, ⟨by (with_reducible repeat (first | refine blk_drewN ?_ _ | refine blk_drew ?_ | refine blk_alloc ?_ _)); exact BK135.out⟩, ⟨by (with_reducible repeat (first | refine blk_drewN ?_ _ | refine blk_drew ?_ | refine blk_alloc ?_ _)); exact BK136.out⟩, ⟨by repeat (first | (with_reducible first | exact HB.out | apply below_alloc | apply pw_below_drewN | apply below_drew1 | refine below_set ?_ GE134.out | refine below_set ?_ GE135.out | refine below_set ?_ GE136.out) | exact HB.out)⟩⟩
        · rw [if_neg c9] at H
          have c9b0 : decide (x4_1 < (l0_0.length : Int)) = false := decide_eq_false c9
          clear c9
          (first | rw [c9b0] | (simp only [i64_w, i32_w]; rw [c9b0]) | skip)
          have H' := Aside0.mk H
          clear H
          have hnb13 := NB134_135.out
          have hnc13 := NB135_134.out
          have hnb14 := NB134_136.out
          have hnc14 := NB136_134.out
          have hcz15_0 : wr.cell? ⟨gb134, 0, none⟩ = some (.slice A0_0 l0_0.length c0_0) := (blk_cell BK134.out 0).trans rfl
          have hfz15_0 := blk_frozen BK134.out 0
          go_wp2
          go_meet
          case rel => exact ⟨_, (false), (by first | rfl | (simp; done) | (simp [*]; done)), H', ⟨by have := HK1.out; first | omega | exact Nat.le_refl _⟩, ⟨by (with_reducible repeat (first | apply Kd.V_alloc | apply Kd.V_drewN | apply Kd.V_drew)); exact HO_135000.out⟩, ⟨by (with_reducible repeat (first | apply Kd.N_alloc | apply Kd.N_drewN | apply Kd.N_drew)); exact HO_137000.out⟩, ⟨by (with_reducible repeat (first | refine blk_drewN ?_ _ | refine blk_drew ?_ | refine blk_alloc ?_ _)); exact BK134.out⟩, ⟨by (with_reducible repeat (first | refine blk_drewN ?_ _ | refine blk_drew ?_ | refine blk_alloc ?_ _)); exact BK135.out⟩, ⟨by (with_reducible repeat (first | refine blk_drewN ?_ _ | refine blk_drew ?_ | refine blk_alloc ?_ _)); exact BK136.out⟩, ⟨by repeat (first | (with_reducible first | exact HB.out | apply below_alloc | apply pw_below_drewN | apply below_drew1 | refine below_set ?_ GE134.out | refine below_set ?_ GE135.out | refine below_set ?_ GE136.out) | exact HB.out)⟩⟩
      case rest =>
        clear HC8
        try clear c1
        try clear p2
        try clear c5
        try clear c6
        try clear c9
        try clear c9b0
        try clear c10
        try clear c11
        try clear c13
        try clear c14
        try clear hcz12_0
        try clear hcz15_0
        try clear hcz7_0
        try clear hfz12_0
        try clear hfz15_0
        try clear hfz7_0
        try clear p2
        obtain ⟨kq, x15_7, rfl, HA, HJ7, HO_135000, HO_137000, BK134, BK135, BK136, HB⟩ := hcut
        cases kq with
        | zero => exact absurd HA.out (by simp [registrarlaw07_few.j1])
        | succ kj7 =>
          have H := HA.out
          clear HA
          simp only [registrarlaw07_few.j1] at H
          by_cases c16 : x15_7 = true
          · subst c16
            have H1 : (if 0 ≤ x4_1 then (if x4_1 < (l0_0.length : Int) then (if (((rd_T60 l0_0 x4_1).f0).length : Int) > 8 then (if 8 ≤ (((rd_T60 l0_0 x4_1).f0).length : Int) then ((some (((rd_T60 l0_0 x4_1).f0).take 8 : List ByteArray)).bind fun y139 => (if (((rd_T60 l0_0 x4_1).f1).length : Int) > 8 then (if 8 ≤ (((rd_T60 l0_0 x4_1).f1).length : Int) then (if x137000_1.length < 2932031007402 then (registrarlaw07_few.l0 kj7 (wrap64 (x4_1 + 1)) l0_0 (x137000_1 ++ [(⟨y139, (((rd_T60 l0_0 x4_1).f1).take 8)⟩ : S60)])) else (none)) else (none)) else (if x137000_1.length < 2932031007402 then (registrarlaw07_few.l0 kj7 (wrap64 (x4_1 + 1)) l0_0 (x137000_1 ++ [(⟨y139, (rd_T60 l0_0 x4_1).f1⟩ : S60)])) else (none)))) else (none)) else (if (((rd_T60 l0_0 x4_1).f1).length : Int) > 8 then (if 8 ≤ (((rd_T60 l0_0 x4_1).f1).length : Int) then (if x137000_1.length < 2932031007402 then (registrarlaw07_few.l0 kj7 (wrap64 (x4_1 + 1)) l0_0 (x137000_1 ++ [(⟨(rd_T60 l0_0 x4_1).f0, (((rd_T60 l0_0 x4_1).f1).take 8)⟩ : S60)])) else (none)) else (none)) else (if x137000_1.length < 2932031007402 then (registrarlaw07_few.l0 kj7 (wrap64 (x4_1 + 1)) l0_0 (x137000_1 ++ [(⟨(rd_T60 l0_0 x4_1).f0, (rd_T60 l0_0 x4_1).f1⟩ : S60)])) else (none)))) else (none)) else (none)) = some r := by rw [if_pos rfl] at H; exact H
            clear H
            have H := H1
            clear H1
            by_cases c17 : 0 ≤ x4_1
            · rw [if_pos c17] at H
              have c17b0 : decide (0 ≤ x4_1) = true := decide_eq_true c17
              clear c17
              by_cases c18 : x4_1 < (l0_0.length : Int)
              · rw [if_pos c18] at H
                have c18b0 : decide (x4_1 < (l0_0.length : Int)) = true := decide_eq_true c18
                clear c18
                by_cases c19 : (((rd_T60 l0_0 x4_1).f0).length : Int) > 8
                · rw [if_pos c19] at H
                  have c19b0 : decide (8 < (((rd_T60 l0_0 x4_1).f0).length : Int)) = true := decide_eq_true c19
                  have c19b1 : decide (8 < ((rd_T60 l0_0 x4_1).f0).length) = true := decide_eq_true (by omega)
                  clear c19
                  by_cases c20 : 8 ≤ (((rd_T60 l0_0 x4_1).f0).length : Int)
                  · rw [if_pos c20] at H
                    have c20b0 := eq_true c20
                    have c20b1 : decide (8 ≤ (((rd_T60 l0_0 x4_1).f0).length : Int)) = true := decide_eq_true c20
                    clear c20
                    obtain ⟨y139, hy139⟩ : ∃ y_ : List ByteArray, y_ = (((rd_T60 l0_0 x4_1).f0).take 8) := ⟨_, rfl⟩
                    replace H : (if (((rd_T60 l0_0 x4_1).f1).length : Int) > 8 then (if 8 ≤ (((rd_T60 l0_0 x4_1).f1).length : Int) then (if x137000_1.length < 2932031007402 then (registrarlaw07_few.l0 kj7 (wrap64 (x4_1 + 1)) l0_0 (x137000_1 ++ [(⟨y139, (((rd_T60 l0_0 x4_1).f1).take 8)⟩ : S60)])) else (none)) else (none)) else (if x137000_1.length < 2932031007402 then (registrarlaw07_few.l0 kj7 (wrap64 (x4_1 + 1)) l0_0 (x137000_1 ++ [(⟨y139, (rd_T60 l0_0 x4_1).f1⟩ : S60)])) else (none))) = some r := by first | (rw [hy139]; with_reducible exact H) | (have H2_ := (Option.bind_some _ _).symm.trans H; rw [hy139]; with_reducible exact H2_) | (have H2_ := (Option.bind_some _ _).symm.trans H; with_reducible exact H2_) | with_reducible exact H | (rw [hy139]; exact H) | exact H
                    have Ny139 := Aside0.mk hy139
                    clear hy139
                    by_cases c21 : (((rd_T60 l0_0 x4_1).f1).length : Int) > 8
                    · rw [if_pos c21] at H
                      have c21b0 : decide (8 < (((rd_T60 l0_0 x4_1).f1).length : Int)) = true := decide_eq_true c21
                      have c21b1 : decide (8 < ((rd_T60 l0_0 x4_1).f1).length) = true := decide_eq_true (by omega)
                      clear c21
                      by_cases c22 : 8 ≤ (((rd_T60 l0_0 x4_1).f1).length : Int)
                      · rw [if_pos c22] at H
                        have c22b0 := eq_true c22
                        have c22b1 : decide (8 ≤ (((rd_T60 l0_0 x4_1).f1).length : Int)) = true := decide_eq_true c22
                        clear c22
                        obtain ⟨y144, hy144⟩ : ∃ y_ : List ByteArray, y_ = (((rd_T60 l0_0 x4_1).f1).take 8) := ⟨_, rfl⟩
                        replace H : (if x137000_1.length < 2932031007402 then (registrarlaw07_few.l0 kj7 (wrap64 (x4_1 + 1)) l0_0 (x137000_1 ++ [(⟨y139, y144⟩ : S60)])) else (none)) = some r := by first | (rw [hy144]; with_reducible exact H) | (have H2_ := (Option.bind_some _ _).symm.trans H; rw [hy144]; with_reducible exact H2_) | (have H2_ := (Option.bind_some _ _).symm.trans H; with_reducible exact H2_) | with_reducible exact H | (rw [hy144]; exact H) | exact H
                        have Ny144 := Aside0.mk hy144
                        clear hy144
                        by_cases c23 : x137000_1.length < 2932031007402
                        · rw [if_pos c23] at H
                          have LMc23 := Aside0.mk c23
                          clear c23
                          obtain ⟨y149, hy149⟩ : ∃ y_ : List (S60), y_ = (x137000_1 ++ [(⟨y139, y144⟩ : S60)]) := ⟨_, rfl⟩
                          replace H : (registrarlaw07_few.l0 kj7 (wrap64 (x4_1 + 1)) l0_0 y149) = some r := by first | (rw [hy149]; with_reducible exact H) | (have H2_ := (Option.bind_some _ _).symm.trans H; rw [hy149]; with_reducible exact H2_) | (have H2_ := (Option.bind_some _ _).symm.trans H; with_reducible exact H2_) | with_reducible exact H | (rw [hy149]; exact H) | exact H
                          have Ny149 := Aside0.mk hy149
                          clear hy149
                          have H' := Aside0.mk H
                          clear H
                          have hnb24 := NB134_135.out
                          have hnc24 := NB135_134.out
                          have hnb25 := NB134_136.out
                          have hnc25 := NB136_134.out
                          have hcz26_0 : wc.cell? ⟨gb134, 0, none⟩ = some (.slice A0_0 l0_0.length c0_0) := (blk_cell BK134.out 0).trans rfl
                          have hfz26_0 := blk_frozen BK134.out 0
                          have p137 : 0 ≤ (x4_1 : Int) := of_decide_eq_true (by first | (with_reducible assumption) | assumption)
                          have q137 : x4_1 < (l0_0.length : Int) := of_decide_eq_true (by first | (with_reducible assumption) | assumption)
                          obtain ⟨ad137, A137_0, c137_0, A137_1, c137_1, e137, hx137_0, hx137_1, hl137_0, hi137_0, hl137_1, hi137_1⟩ := at_T60 (Kd.V_reads' HO_135000.out).2.2 x4_1 p137 q137
                          cases e137
                          obtain ⟨ce137, hce137, hMe137, hcc137⟩ := Kd.V_get HO_135000.out z60 x4_1 p137 (by first | exact q137 | exact of_decide_eq_true (by first | (with_reducible assumption) | assumption) | (have e_ := (Kd.V_reads' HO_135000.out).1; omega))
                          obtain ⟨ua137_0, uc137_0, ua137_1, uc137_1, rfl, ul137_0, ge137_0, ul137_1, ge137_1⟩ := k60_openF hMe137
                          have hv137_0 := hcc137 0 _ rfl
                          rw [Nat.add_zero] at hv137_0
                          replace hv137_0 := Option.some.inj (hv137_0.symm.trans hx137_0)
                          injection hv137_0 with hva_ hvn_ hvc_
                          rw [hva_] at ge137_0
                          rw [hvc_] at ul137_0
                          have HL137_0 := Aside0.mk (show Kd.V Kd.string 9 _ w.heap.size _ _ ((rd_T60 l0_0 x4_1).f0) from Kd.V_mk ul137_0 ge137_0)
                          clear hva_ hvn_ hvc_ ge137_0 ul137_0
                          have hv137_1 := hcc137 1 _ rfl
                          rw [add_field _ _ 1 (by omega)] at hv137_1
                          replace hv137_1 := Option.some.inj (hv137_1.symm.trans hx137_1)
                          injection hv137_1 with hva_ hvn_ hvc_
                          rw [hva_] at ge137_1
                          rw [hvc_] at ul137_1
                          have HL137_1 := Aside0.mk (show Kd.V Kd.string 9 _ w.heap.size _ _ ((rd_T60 l0_0 x4_1).f1) from Kd.V_mk ul137_1 ge137_1)
                          clear hva_ hvn_ hvc_ ge137_1 ul137_1
                          clear hcc137 hce137
                          have HR137_0 := Aside0.mk hi137_0
                          have HC137_0 := Aside0.mk hl137_0
                          clear hi137_0 hl137_0
                          have HR137_1 := Aside0.mk hi137_1
                          have HC137_1 := Aside0.mk hl137_1
                          clear hi137_1 hl137_1
                          replace p137 := eq_true p137
                          replace q137 := eq_true q137
                          go_wp2_with (first | ((with_reducible refine gate_dst (N := 5) rfl ?_); refine box_event ?hg (N := 5) ?hd (cs := #[.slice none 0 0, .slice none 0 0]) (t := 60) ?hr ?_; (case hd => rfl); (case hg => rfl); (case hr => first | (go_simp; done) | (go_simp; rfl)); intro gb138 hg w27 hbox hb; have n0_ := Aside0.mk (Kd.V_below (Kd.V_elderB (by (with_reducible repeat (first | apply Kd.V_alloc | apply Kd.V_drewN | apply Kd.V_drew)); exact HO_135000.out) gb138 (Nat.le_of_eq hg.symm)) hb); have n1_ := Aside0.mk (Kd.N_below (Kd.N_elderB (by (with_reducible repeat (first | apply Kd.N_alloc | apply Kd.N_drewN | apply Kd.N_drew)); exact HO_137000.out) gb138 (Nat.le_of_eq hg.symm)) hb); have n2_ := Aside0.mk (Kd.V_below (Kd.V_elderB (by (with_reducible repeat (first | apply Kd.V_alloc | apply Kd.V_drewN | apply Kd.V_drew)); exact HL137_0.out) gb138 (Nat.le_of_eq hg.symm)) hb); have n3_ := Aside0.mk (Kd.V_below (Kd.V_elderB (by (with_reducible repeat (first | apply Kd.V_alloc | apply Kd.V_drewN | apply Kd.V_drew)); exact HL137_1.out) gb138 (Nat.le_of_eq hg.symm)) hb); have n4_ := Aside0.mk (blk_below (g := gb134) (o := .cells #[.slice (some ad137) l0_0.length c0_0] 25 (0, 0)) (by (with_reducible repeat (first | refine blk_drewN ?_ _ | refine blk_drew ?_ | refine blk_alloc ?_ _)); exact BK134.out) hb); have n5_ := Aside0.mk (blk_below (g := gb135) (o := .cells #[.slice none 0 0] 25 (0, 0)) (by (with_reducible repeat (first | refine blk_drewN ?_ _ | refine blk_drew ?_ | refine blk_alloc ?_ _)); exact BK135.out) hb); have n6_ := Aside0.mk (blk_below (g := gb136) (o := .cells #[u137000] 25 (0, 0)) (by (with_reducible repeat (first | refine blk_drewN ?_ _ | refine blk_drew ?_ | refine blk_alloc ?_ _)); exact BK136.out) hb); have n7_ := Aside0.mk (Kd.C_below (by repeat (first | (with_reducible exact HR137_0.out) | (with_reducible refine Kd.C_alloc ?_ _) | (with_reducible refine Kd.C_drewN ?_ _) | (with_reducible refine Kd.C_drew ?_) | exact HR137_0.out | exact (Kd.V_reads' HL137_0.out).2.2)) hb); have n8_ := Aside0.mk (Kd.C_below (by repeat (first | (with_reducible exact HR137_1.out) | (with_reducible refine Kd.C_alloc ?_ _) | (with_reducible refine Kd.C_drewN ?_ _) | (with_reducible refine Kd.C_drew ?_) | exact HR137_1.out | exact (Kd.V_reads' HL137_1.out).2.2)) hb); have n9_ := Aside0.mk (below_step (by repeat (first | (with_reducible first | exact HB.out | apply below_alloc | apply pw_below_drewN | apply below_drew1 | refine below_set ?_ GE134.out | refine below_set ?_ GE135.out | refine below_set ?_ GE136.out) | exact HB.out)) hb); have n10_ := Aside0.mk (hbox); have n11_ := Aside0.mk ((by rw [hg]; exact (below_size (by repeat (first | (with_reducible first | exact HB.out | apply below_alloc | apply pw_below_drewN | apply below_drew1 | refine below_set ?_ GE134.out | refine below_set ?_ GE135.out | refine below_set ?_ GE136.out) | exact HB.out))) : w.heap.size ≤ gb138)); have n12_ := Aside0.mk ((by rw [hg]; exact (below_size (by repeat (first | (with_reducible first | exact HB.out | apply below_alloc | apply pw_below_drewN | apply below_drew1 | refine below_set ?_ GE134.out | refine below_set ?_ GE135.out | refine below_set ?_ GE136.out) | exact HB.out))) : w.heap.size ≤ gb138)); have n13_ := Aside0.mk ((by rw [hg]; exact Nat.ne_of_lt (blk_lt (g := gb134) (o := .cells #[.slice (some ad137) l0_0.length c0_0] 25 (0, 0)) (by (with_reducible repeat (first | refine blk_drewN ?_ _ | refine blk_drew ?_ | refine blk_alloc ?_ _)); exact BK134.out)) : gb134 ≠ gb138)); have n14_ := Aside0.mk ((by rw [hg]; exact Nat.ne_of_gt (blk_lt (g := gb134) (o := .cells #[.slice (some ad137) l0_0.length c0_0] 25 (0, 0)) (by (with_reducible repeat (first | refine blk_drewN ?_ _ | refine blk_drew ?_ | refine blk_alloc ?_ _)); exact BK134.out)) : gb138 ≠ gb134)); have n15_ := Aside0.mk ((by rw [hg]; exact Nat.ne_of_lt (blk_lt (g := gb135) (o := .cells #[.slice none 0 0] 25 (0, 0)) (by (with_reducible repeat (first | refine blk_drewN ?_ _ | refine blk_drew ?_ | refine blk_alloc ?_ _)); exact BK135.out)) : gb135 ≠ gb138)); have n16_ := Aside0.mk ((by rw [hg]; exact Nat.ne_of_gt (blk_lt (g := gb135) (o := .cells #[.slice none 0 0] 25 (0, 0)) (by (with_reducible repeat (first | refine blk_drewN ?_ _ | refine blk_drew ?_ | refine blk_alloc ?_ _)); exact BK135.out)) : gb138 ≠ gb135)); have n17_ := Aside0.mk ((by rw [hg]; exact Nat.ne_of_lt (blk_lt (g := gb136) (o := .cells #[u137000] 25 (0, 0)) (by (with_reducible repeat (first | refine blk_drewN ?_ _ | refine blk_drew ?_ | refine blk_alloc ?_ _)); exact BK136.out)) : gb136 ≠ gb138)); have n18_ := Aside0.mk ((by rw [hg]; exact Nat.ne_of_gt (blk_lt (g := gb136) (o := .cells #[u137000] 25 (0, 0)) (by (with_reducible repeat (first | refine blk_drewN ?_ _ | refine blk_drew ?_ | refine blk_alloc ?_ _)); exact BK136.out)) : gb138 ≠ gb136)); clear HO_135000; clear HO_137000; clear HL137_0; clear HL137_1; clear BK134; clear BK135; clear BK136; clear HR137_0; clear HR137_1; clear HB; have HO_135000 := n0_; have HO_137000 := n1_; have HL137_0 := n2_; have HL137_1 := n3_; have BK134 := n4_; have BK135 := n5_; have BK136 := n6_; have HR137_0 := n7_; have HR137_1 := n8_; have HB := n9_; have BK138 := n10_; have GW138 := n11_; have GE138 := n12_; have NB134_138 := n13_; have NB138_134 := n14_; have NB135_138 := n15_; have NB138_135 := n16_; have NB136_138 := n17_; have NB138_136 := n18_; clear n0_ n1_ n2_ n3_ n4_ n5_ n6_ n7_ n8_ n9_ n10_ n11_ n12_ n13_ n14_ n15_ n16_ n17_ n18_; clear hb hbox hg; have hnb28 := NB138_134.out; have hnc28 := NB134_138.out; have hnb29 := NB138_135.out; have hnc29 := NB135_138.out; have hnb30 := NB138_136.out; have hnc30 := NB136_138.out; have hcz31_0 : w27.cell? ⟨gb138, 0, none⟩ = some (.slice none 0 0) := (blk_cell BK138.out 0).trans rfl; have hcz31_1 : w27.cell? ⟨gb138, 1, none⟩ = some (.slice none 0 0) := (blk_cell BK138.out 1).trans rfl; have hfz31_0 := blk_frozen BK138.out 0; have hfz31_1 := blk_frozen BK138.out 1) | ((with_reducible refine gate_store (t := 60) (p := 5) rfl ?_); refine store_event (t := 60) (p := 5) (v := ?vo_w32) (w1 := ((w27.setCell ⟨gb138, 0, none⟩ (.slice A137_0 ((rd_T60 l0_0 x4_1).f0).length c137_0)).setCell ⟨gb138, 1, none⟩ (.slice A137_1 ((rd_T60 l0_0 x4_1).f1).length c137_1))) ?hg ?ho ?hn ?hr ?_; (case ho => rfl); (case hg => rfl); (case hn => rfl); (case hr => first | (go_simp; done) | (go_simp; rfl)); intro w32 hw; have n0_ : Aside0 (Kd.V k60 60 w32 w.heap.size (fun k_ => (P0_0_ k_ ∨ w.heap.size ≤ k_) ∧ some k_ ≠ (u137000 : Value).ownBlock ∧ k_ ≠ gb134 ∧ k_ ≠ gb135 ∧ k_ ≠ gb136 ∧ k_ ≠ gb138) (.slice (some ad137) l0_0.length c0_0) l0_0) := ⟨(by rw [hw]; exact (by (with_reducible repeat (first | apply Kd.V_alloc | apply Kd.V_drewN | apply Kd.V_drew)); exact Kd.V_mono (Kd.V_far (p := ⟨gb138, 1, none⟩) (Kd.V_far (p := ⟨gb138, 0, none⟩) (Kd.V_mono HO_135000.out (fun k_ hk => (⟨hk, hk.2⟩ : _ ∧ k_ ≠ gb138))) (fun _ hk => hk.2) (.slice A137_0 ((rd_T60 l0_0 x4_1).f0).length c137_0)) (fun _ hk => hk.2) (.slice A137_1 ((rd_T60 l0_0 x4_1).f1).length c137_1)) (fun _ hk => ⟨hk.1.1.1, ⟨hk.1.1.2.1, ⟨hk.1.1.2.2.1, ⟨hk.1.1.2.2.2.1, ⟨hk.1.1.2.2.2.2, hk.1.2⟩⟩⟩⟩⟩)))⟩; have n1_ : Aside0 (Kd.N k60 60 w32 w.heap.size (fun k_ => (P0_0_ k_ ∨ w.heap.size ≤ k_) ∧ k_ ≠ gb134 ∧ k_ ≠ gb135 ∧ k_ ≠ gb136 ∧ k_ ≠ gb138) u137000 x137000_1) := ⟨(by rw [hw]; exact (by (with_reducible repeat (first | apply Kd.N_alloc | apply Kd.N_drewN | apply Kd.N_drew)); exact Kd.N_mono (Kd.N_far (p := ⟨gb138, 1, none⟩) (Kd.N_far (p := ⟨gb138, 0, none⟩) (Kd.N_mono HO_137000.out (fun k_ hk => (⟨hk, hk.2⟩ : _ ∧ k_ ≠ gb138))) (fun _ hk => hk.2) (.slice A137_0 ((rd_T60 l0_0 x4_1).f0).length c137_0)) (fun _ hk => hk.2) (.slice A137_1 ((rd_T60 l0_0 x4_1).f1).length c137_1)) (fun _ hk => ⟨hk.1.1.1, ⟨hk.1.1.2.1, ⟨hk.1.1.2.2.1, ⟨hk.1.1.2.2.2, hk.1.2⟩⟩⟩⟩)))⟩; have n2_ : Aside0 (Kd.V Kd.string 9 w32 w.heap.size (fun k_ => (P0_0_ k_ ∨ w.heap.size ≤ k_) ∧ some k_ ≠ (u137000 : Value).ownBlock ∧ k_ ≠ gb134 ∧ k_ ≠ gb135 ∧ k_ ≠ gb136 ∧ k_ ≠ gb138) (.slice A137_0 ((rd_T60 l0_0 x4_1).f0).length c137_0) ((rd_T60 l0_0 x4_1).f0)) := ⟨(by rw [hw]; exact (by (with_reducible repeat (first | apply Kd.V_alloc | apply Kd.V_drewN | apply Kd.V_drew)); exact Kd.V_mono (Kd.V_far (p := ⟨gb138, 1, none⟩) (Kd.V_far (p := ⟨gb138, 0, none⟩) (Kd.V_mono HL137_0.out (fun k_ hk => (⟨hk, hk.2⟩ : _ ∧ k_ ≠ gb138))) (fun _ hk => hk.2) (.slice A137_0 ((rd_T60 l0_0 x4_1).f0).length c137_0)) (fun _ hk => hk.2) (.slice A137_1 ((rd_T60 l0_0 x4_1).f1).length c137_1)) (fun _ hk => ⟨hk.1.1.1, ⟨hk.1.1.2.1, ⟨hk.1.1.2.2.1, ⟨hk.1.1.2.2.2.1, ⟨hk.1.1.2.2.2.2, hk.1.2⟩⟩⟩⟩⟩)))⟩; have n3_ : Aside0 (Kd.V Kd.string 9 w32 w.heap.size (fun k_ => (P0_0_ k_ ∨ w.heap.size ≤ k_) ∧ some k_ ≠ (u137000 : Value).ownBlock ∧ k_ ≠ gb134 ∧ k_ ≠ gb135 ∧ k_ ≠ gb136 ∧ k_ ≠ gb138) (.slice A137_1 ((rd_T60 l0_0 x4_1).f1).length c137_1) ((rd_T60 l0_0 x4_1).f1)) := ⟨(by rw [hw]; exact (by (with_reducible repeat (first | apply Kd.V_alloc | apply Kd.V_drewN | apply Kd.V_drew)); exact Kd.V_mono (Kd.V_far (p := ⟨gb138, 1, none⟩) (Kd.V_far (p := ⟨gb138, 0, none⟩) (Kd.V_mono HL137_1.out (fun k_ hk => (⟨hk, hk.2⟩ : _ ∧ k_ ≠ gb138))) (fun _ hk => hk.2) (.slice A137_0 ((rd_T60 l0_0 x4_1).f0).length c137_0)) (fun _ hk => hk.2) (.slice A137_1 ((rd_T60 l0_0 x4_1).f1).length c137_1)) (fun _ hk => ⟨hk.1.1.1, ⟨hk.1.1.2.1, ⟨hk.1.1.2.2.1, ⟨hk.1.1.2.2.2.1, ⟨hk.1.1.2.2.2.2, hk.1.2⟩⟩⟩⟩⟩)))⟩; have n4_ : Aside0 (w32.heap[gb134]? = some (.cells #[.slice (some ad137) l0_0.length c0_0] 25 (0, 0))) := ⟨(by rw [hw]; exact (by (with_reducible repeat (first | refine blk_drewN ?_ _ | refine blk_drew ?_ | refine blk_alloc ?_ _)); refine blk_far ?_ NB134_138.out _; (with_reducible repeat (first | refine blk_drewN ?_ _ | refine blk_drew ?_ | refine blk_alloc ?_ _)); refine blk_far ?_ NB134_138.out _; (with_reducible repeat (first | refine blk_drewN ?_ _ | refine blk_drew ?_ | refine blk_alloc ?_ _)); exact BK134.out))⟩; have n5_ : Aside0 (w32.heap[gb135]? = some (.cells #[.slice none 0 0] 25 (0, 0))) := ⟨(by rw [hw]; exact (by (with_reducible repeat (first | refine blk_drewN ?_ _ | refine blk_drew ?_ | refine blk_alloc ?_ _)); refine blk_far ?_ NB135_138.out _; (with_reducible repeat (first | refine blk_drewN ?_ _ | refine blk_drew ?_ | refine blk_alloc ?_ _)); refine blk_far ?_ NB135_138.out _; (with_reducible repeat (first | refine blk_drewN ?_ _ | refine blk_drew ?_ | refine blk_alloc ?_ _)); exact BK135.out))⟩; have n6_ : Aside0 (w32.heap[gb136]? = some (.cells #[u137000] 25 (0, 0))) := ⟨(by rw [hw]; exact (by (with_reducible repeat (first | refine blk_drewN ?_ _ | refine blk_drew ?_ | refine blk_alloc ?_ _)); refine blk_far ?_ NB136_138.out _; (with_reducible repeat (first | refine blk_drewN ?_ _ | refine blk_drew ?_ | refine blk_alloc ?_ _)); refine blk_far ?_ NB136_138.out _; (with_reducible repeat (first | refine blk_drewN ?_ _ | refine blk_drew ?_ | refine blk_alloc ?_ _)); exact BK136.out))⟩; have n7_ : Aside0 (w32.heap[gb138]? = some (.cells #[.slice A137_0 ((rd_T60 l0_0 x4_1).f0).length c137_0, .slice A137_1 ((rd_T60 l0_0 x4_1).f1).length c137_1] 60 (0, 0))) := ⟨(by rw [hw]; exact (by (with_reducible repeat (first | refine blk_drewN ?_ _ | refine blk_drew ?_ | refine blk_alloc ?_ _)); refine blk_put (cs := #[.slice A137_0 ((rd_T60 l0_0 x4_1).f0).length c137_0, .slice none 0 0]) ?_ 1 _ rfl; (with_reducible repeat (first | refine blk_drewN ?_ _ | refine blk_drew ?_ | refine blk_alloc ?_ _)); refine blk_put (cs := #[.slice none 0 0, .slice none 0 0]) ?_ 0 _ rfl; (with_reducible repeat (first | refine blk_drewN ?_ _ | refine blk_drew ?_ | refine blk_alloc ?_ _)); exact BK138.out))⟩; have n8_ : Aside0 (Below w.heap.size w w32) := ⟨(by rw [hw]; exact (by repeat (first | (with_reducible first | exact HB.out | apply below_alloc | apply pw_below_drewN | apply below_drew1 | refine below_set ?_ GE134.out | refine below_set ?_ GE135.out | refine below_set ?_ GE136.out | refine below_set ?_ GE138.out) | exact HB.out)))⟩; clear hw; clear HO_135000; clear HO_137000; clear HL137_0; clear HL137_1; clear BK134; clear BK135; clear BK136; clear BK138; clear HB; have HO_135000 := n0_; have HO_137000 := n1_; have HL137_0 := n2_; have HL137_1 := n3_; have BK134 := n4_; have BK135 := n5_; have BK136 := n6_; have BK138 := n7_; have HB := n8_; clear n0_ n1_ n2_ n3_ n4_ n5_ n6_ n7_ n8_; have hcz33_0 : w32.cell? ⟨gb138, 0, none⟩ = some (.slice A137_0 ((rd_T60 l0_0 x4_1).f0).length c137_0) := (blk_cell BK138.out 0).trans rfl; have hcz33_1 : w32.cell? ⟨gb138, 1, none⟩ = some (.slice A137_1 ((rd_T60 l0_0 x4_1).f1).length c137_1) := (blk_cell BK138.out 1).trans rfl; have hfz33_0 := blk_frozen BK138.out 0; have hfz33_1 := blk_frozen BK138.out 1; have q34 : (8 : Int) ≤ ((((rd_T60 l0_0 x4_1).f0).length : Int) : Int) := of_decide_eq_true (by first | (with_reducible assumption) | assumption); obtain ⟨i034, hi034, _, hsz34, _⟩ := info_parts info9; have hroom34 : ((rd_T60 l0_0 x4_1).f0).length ≤ c137_0 := HC137_0.out; have hC34 : Kd.F Kd.string _ _ A137_0 ((rd_T60 l0_0 x4_1).f0).length ((rd_T60 l0_0 x4_1).f0) := (Kd.V_at (base := w.heap.size) HL137_0.out).2.2; have hcut34 := cut_to (P := Try.prog) 58 9 .i64 Try.underlying58 hi034 A137_0 ((rd_T60 l0_0 x4_1).f0).length c137_0 8 (by omega) q34 hroom34; have hr34 := Kd.F_take (m := 8) hC34 (by omega); have hy34 : y139.length = (8 : Int).toNat := (by rw [Ny139.out, List.length_take]; omega); rw [← Ny139.out] at hr34; rw [← hy34] at hcut34; have HO143 := Aside0.mk (show Kd.V Kd.string 9 _ w.heap.size _ (.slice A137_0 y139.length c137_0) y139 from Kd.V_mk (by omega) hr34); have HC143 := Aside0.mk (show y139.length ≤ c137_0 from by omega); clear hr34 hC34 hroom34 hi034 hsz34; have KY34 := Aside0.mk hy34; clear hy34; replace q34 := eq_true q34) | ((with_reducible refine gate_store (t := 58) (p := 30) rfl ?_); refine store_event (t := 58) (p := 30) (v := ?vo_w35) (w1 := (w32.setCell ⟨gb138, 0, none⟩ (.slice A137_0 y139.length c137_0))) ?hg ?ho ?hn ?hr ?_; (case ho => rfl); (case hg => rfl); (case hn => rfl); (case hr => first | (go_simp; done) | (go_simp; rfl)); intro w35 hw; have n0_ : Aside0 (Kd.V k60 60 w35 w.heap.size (fun k_ => (P0_0_ k_ ∨ w.heap.size ≤ k_) ∧ some k_ ≠ (u137000 : Value).ownBlock ∧ k_ ≠ gb134 ∧ k_ ≠ gb135 ∧ k_ ≠ gb136 ∧ k_ ≠ gb138) (.slice (some ad137) l0_0.length c0_0) l0_0) := ⟨(by rw [hw]; exact (by (with_reducible repeat (first | apply Kd.V_alloc | apply Kd.V_drewN | apply Kd.V_drew)); exact Kd.V_mono (Kd.V_far (p := ⟨gb138, 0, none⟩) (Kd.V_mono HO_135000.out (fun k_ hk => (⟨hk, hk.2.2.2.2.2⟩ : _ ∧ k_ ≠ gb138))) (fun _ hk => hk.2) (.slice A137_0 y139.length c137_0)) (fun _ hk => ⟨hk.1.1, ⟨hk.1.2.1, ⟨hk.1.2.2.1, ⟨hk.1.2.2.2.1, ⟨hk.1.2.2.2.2.1, hk.1.2.2.2.2.2⟩⟩⟩⟩⟩)))⟩; have n1_ : Aside0 (Kd.N k60 60 w35 w.heap.size (fun k_ => (P0_0_ k_ ∨ w.heap.size ≤ k_) ∧ k_ ≠ gb134 ∧ k_ ≠ gb135 ∧ k_ ≠ gb136 ∧ k_ ≠ gb138) u137000 x137000_1) := ⟨(by rw [hw]; exact (by (with_reducible repeat (first | apply Kd.N_alloc | apply Kd.N_drewN | apply Kd.N_drew)); exact Kd.N_mono (Kd.N_far (p := ⟨gb138, 0, none⟩) (Kd.N_mono HO_137000.out (fun k_ hk => (⟨hk, hk.2.2.2.2⟩ : _ ∧ k_ ≠ gb138))) (fun _ hk => hk.2) (.slice A137_0 y139.length c137_0)) (fun _ hk => ⟨hk.1.1, ⟨hk.1.2.1, ⟨hk.1.2.2.1, ⟨hk.1.2.2.2.1, hk.1.2.2.2.2⟩⟩⟩⟩)))⟩; have n2_ : Aside0 (Kd.V Kd.string 9 w35 w.heap.size (fun k_ => (P0_0_ k_ ∨ w.heap.size ≤ k_) ∧ some k_ ≠ (u137000 : Value).ownBlock ∧ k_ ≠ gb134 ∧ k_ ≠ gb135 ∧ k_ ≠ gb136 ∧ k_ ≠ gb138) (.slice A137_0 ((rd_T60 l0_0 x4_1).f0).length c137_0) ((rd_T60 l0_0 x4_1).f0)) := ⟨(by rw [hw]; exact (by (with_reducible repeat (first | apply Kd.V_alloc | apply Kd.V_drewN | apply Kd.V_drew)); exact Kd.V_mono (Kd.V_far (p := ⟨gb138, 0, none⟩) (Kd.V_mono HL137_0.out (fun k_ hk => (⟨hk, hk.2.2.2.2.2⟩ : _ ∧ k_ ≠ gb138))) (fun _ hk => hk.2) (.slice A137_0 y139.length c137_0)) (fun _ hk => ⟨hk.1.1, ⟨hk.1.2.1, ⟨hk.1.2.2.1, ⟨hk.1.2.2.2.1, ⟨hk.1.2.2.2.2.1, hk.1.2.2.2.2.2⟩⟩⟩⟩⟩)))⟩; have n3_ : Aside0 (Kd.V Kd.string 9 w35 w.heap.size (fun k_ => (P0_0_ k_ ∨ w.heap.size ≤ k_) ∧ some k_ ≠ (u137000 : Value).ownBlock ∧ k_ ≠ gb134 ∧ k_ ≠ gb135 ∧ k_ ≠ gb136 ∧ k_ ≠ gb138) (.slice A137_1 ((rd_T60 l0_0 x4_1).f1).length c137_1) ((rd_T60 l0_0 x4_1).f1)) := ⟨(by rw [hw]; exact (by (with_reducible repeat (first | apply Kd.V_alloc | apply Kd.V_drewN | apply Kd.V_drew)); exact Kd.V_mono (Kd.V_far (p := ⟨gb138, 0, none⟩) (Kd.V_mono HL137_1.out (fun k_ hk => (⟨hk, hk.2.2.2.2.2⟩ : _ ∧ k_ ≠ gb138))) (fun _ hk => hk.2) (.slice A137_0 y139.length c137_0)) (fun _ hk => ⟨hk.1.1, ⟨hk.1.2.1, ⟨hk.1.2.2.1, ⟨hk.1.2.2.2.1, ⟨hk.1.2.2.2.2.1, hk.1.2.2.2.2.2⟩⟩⟩⟩⟩)))⟩; have n4_ : Aside0 (Kd.V Kd.string 9 w35 w.heap.size (fun k_ => (P0_0_ k_ ∨ w.heap.size ≤ k_) ∧ some k_ ≠ (u137000 : Value).ownBlock ∧ k_ ≠ gb134 ∧ k_ ≠ gb135 ∧ k_ ≠ gb136 ∧ k_ ≠ gb138) (.slice A137_0 y139.length c137_0) y139) := ⟨(by rw [hw]; exact (by (with_reducible repeat (first | apply Kd.V_alloc | apply Kd.V_drewN | apply Kd.V_drew)); exact Kd.V_mono (Kd.V_far (p := ⟨gb138, 0, none⟩) (Kd.V_mono HO143.out (fun k_ hk => (⟨hk, hk.2.2.2.2.2⟩ : _ ∧ k_ ≠ gb138))) (fun _ hk => hk.2) (.slice A137_0 y139.length c137_0)) (fun _ hk => ⟨hk.1.1, ⟨hk.1.2.1, ⟨hk.1.2.2.1, ⟨hk.1.2.2.2.1, ⟨hk.1.2.2.2.2.1, hk.1.2.2.2.2.2⟩⟩⟩⟩⟩)))⟩; have n5_ : Aside0 (w35.heap[gb134]? = some (.cells #[.slice (some ad137) l0_0.length c0_0] 25 (0, 0))) := ⟨(by rw [hw]; exact (by (with_reducible repeat (first | refine blk_drewN ?_ _ | refine blk_drew ?_ | refine blk_alloc ?_ _)); refine blk_far ?_ NB134_138.out _; (with_reducible repeat (first | refine blk_drewN ?_ _ | refine blk_drew ?_ | refine blk_alloc ?_ _)); exact BK134.out))⟩; have n6_ : Aside0 (w35.heap[gb135]? = some (.cells #[.slice none 0 0] 25 (0, 0))) := ⟨(by rw [hw]; exact (by (with_reducible repeat (first | refine blk_drewN ?_ _ | refine blk_drew ?_ | refine blk_alloc ?_ _)); refine blk_far ?_ NB135_138.out _; (with_reducible repeat (first | refine blk_drewN ?_ _ | refine blk_drew ?_ | refine blk_alloc ?_ _)); exact BK135.out))⟩; have n7_ : Aside0 (w35.heap[gb136]? = some (.cells #[u137000] 25 (0, 0))) := ⟨(by rw [hw]; exact (by (with_reducible repeat (first | refine blk_drewN ?_ _ | refine blk_drew ?_ | refine blk_alloc ?_ _)); refine blk_far ?_ NB136_138.out _; (with_reducible repeat (first | refine blk_drewN ?_ _ | refine blk_drew ?_ | refine blk_alloc ?_ _)); exact BK136.out))⟩; have n8_ : Aside0 (w35.heap[gb138]? = some (.cells #[.slice A137_0 y139.length c137_0, .slice A137_1 ((rd_T60 l0_0 x4_1).f1).length c137_1] 60 (0, 0))) := ⟨(by rw [hw]; exact (by (with_reducible repeat (first | refine blk_drewN ?_ _ | refine blk_drew ?_ | refine blk_alloc ?_ _)); refine blk_put (cs := #[.slice A137_0 ((rd_T60 l0_0 x4_1).f0).length c137_0, .slice A137_1 ((rd_T60 l0_0 x4_1).f1).length c137_1]) ?_ 0 _ rfl; (with_reducible repeat (first | refine blk_drewN ?_ _ | refine blk_drew ?_ | refine blk_alloc ?_ _)); exact BK138.out))⟩; have n9_ : Aside0 (Below w.heap.size w w35) := ⟨(by rw [hw]; exact (by repeat (first | (with_reducible first | exact HB.out | apply below_alloc | apply pw_below_drewN | apply below_drew1 | refine below_set ?_ GE134.out | refine below_set ?_ GE135.out | refine below_set ?_ GE136.out | refine below_set ?_ GE138.out) | exact HB.out)))⟩; clear hw; clear HO_135000; clear HO_137000; clear HL137_0; clear HL137_1; clear HO143; clear BK134; clear BK135; clear BK136; clear BK138; clear HB; have HO_135000 := n0_; have HO_137000 := n1_; have HL137_0 := n2_; have HL137_1 := n3_; have HO143 := n4_; have BK134 := n5_; have BK135 := n6_; have BK136 := n7_; have BK138 := n8_; have HB := n9_; clear n0_ n1_ n2_ n3_ n4_ n5_ n6_ n7_ n8_ n9_; have hcz36_0 : w35.cell? ⟨gb138, 0, none⟩ = some (.slice A137_0 y139.length c137_0) := (blk_cell BK138.out 0).trans rfl; have hcz36_1 : w35.cell? ⟨gb138, 1, none⟩ = some (.slice A137_1 ((rd_T60 l0_0 x4_1).f1).length c137_1) := (blk_cell BK138.out 1).trans rfl; have hfz36_0 := blk_frozen BK138.out 0; have hfz36_1 := blk_frozen BK138.out 1; have q37 : (8 : Int) ≤ ((((rd_T60 l0_0 x4_1).f1).length : Int) : Int) := of_decide_eq_true (by first | (with_reducible assumption) | assumption); obtain ⟨i037, hi037, _, hsz37, _⟩ := info_parts info9; have hroom37 : ((rd_T60 l0_0 x4_1).f1).length ≤ c137_1 := HC137_1.out; have hC37 : Kd.F Kd.string _ _ A137_1 ((rd_T60 l0_0 x4_1).f1).length ((rd_T60 l0_0 x4_1).f1) := (Kd.V_at (base := w.heap.size) HL137_1.out).2.2; have hcut37 := cut_to (P := Try.prog) 58 9 .i64 Try.underlying58 hi037 A137_1 ((rd_T60 l0_0 x4_1).f1).length c137_1 8 (by omega) q37 hroom37; have hr37 := Kd.F_take (m := 8) hC37 (by omega); have hy37 : y144.length = (8 : Int).toNat := (by rw [Ny144.out, List.length_take]; omega); rw [← Ny144.out] at hr37; rw [← hy37] at hcut37; have HO148 := Aside0.mk (show Kd.V Kd.string 9 _ w.heap.size _ (.slice A137_1 y144.length c137_1) y144 from Kd.V_mk (by omega) hr37); have HC148 := Aside0.mk (show y144.length ≤ c137_1 from by omega); clear hr37 hC37 hroom37 hi037 hsz37; have KY37 := Aside0.mk hy37; clear hy37; replace q37 := eq_true q37) | ((with_reducible refine gate_store (t := 58) (p := 38) rfl ?_); refine store_event (t := 58) (p := 38) (v := ?vo_w38) (w1 := (w35.setCell ⟨gb138, 1, none⟩ (.slice A137_1 y144.length c137_1))) ?hg ?ho ?hn ?hr ?_; (case ho => rfl); (case hg => rfl); (case hn => rfl); (case hr => first | (go_simp; done) | (go_simp; rfl)); intro w38 hw; have n0_ : Aside0 (Kd.V k60 60 w38 w.heap.size (fun k_ => (P0_0_ k_ ∨ w.heap.size ≤ k_) ∧ some k_ ≠ (u137000 : Value).ownBlock ∧ k_ ≠ gb134 ∧ k_ ≠ gb135 ∧ k_ ≠ gb136 ∧ k_ ≠ gb138) (.slice (some ad137) l0_0.length c0_0) l0_0) := ⟨(by rw [hw]; exact (by (with_reducible repeat (first | apply Kd.V_alloc | apply Kd.V_drewN | apply Kd.V_drew)); exact Kd.V_mono (Kd.V_far (p := ⟨gb138, 1, none⟩) (Kd.V_mono HO_135000.out (fun k_ hk => (⟨hk, hk.2.2.2.2.2⟩ : _ ∧ k_ ≠ gb138))) (fun _ hk => hk.2) (.slice A137_1 y144.length c137_1)) (fun _ hk => ⟨hk.1.1, ⟨hk.1.2.1, ⟨hk.1.2.2.1, ⟨hk.1.2.2.2.1, ⟨hk.1.2.2.2.2.1, hk.1.2.2.2.2.2⟩⟩⟩⟩⟩)))⟩; have n1_ : Aside0 (Kd.N k60 60 w38 w.heap.size (fun k_ => (P0_0_ k_ ∨ w.heap.size ≤ k_) ∧ k_ ≠ gb134 ∧ k_ ≠ gb135 ∧ k_ ≠ gb136 ∧ k_ ≠ gb138) u137000 x137000_1) := ⟨(by rw [hw]; exact (by (with_reducible repeat (first | apply Kd.N_alloc | apply Kd.N_drewN | apply Kd.N_drew)); exact Kd.N_mono (Kd.N_far (p := ⟨gb138, 1, none⟩) (Kd.N_mono HO_137000.out (fun k_ hk => (⟨hk, hk.2.2.2.2⟩ : _ ∧ k_ ≠ gb138))) (fun _ hk => hk.2) (.slice A137_1 y144.length c137_1)) (fun _ hk => ⟨hk.1.1, ⟨hk.1.2.1, ⟨hk.1.2.2.1, ⟨hk.1.2.2.2.1, hk.1.2.2.2.2⟩⟩⟩⟩)))⟩; have n2_ : Aside0 (Kd.V Kd.string 9 w38 w.heap.size (fun k_ => (P0_0_ k_ ∨ w.heap.size ≤ k_) ∧ some k_ ≠ (u137000 : Value).ownBlock ∧ k_ ≠ gb134 ∧ k_ ≠ gb135 ∧ k_ ≠ gb136 ∧ k_ ≠ gb138) (.slice A137_0 ((rd_T60 l0_0 x4_1).f0).length c137_0) ((rd_T60 l0_0 x4_1).f0)) := ⟨(by rw [hw]; exact (by (with_reducible repeat (first | apply Kd.V_alloc | apply Kd.V_drewN | apply Kd.V_drew)); exact Kd.V_mono (Kd.V_far (p := ⟨gb138, 1, none⟩) (Kd.V_mono HL137_0.out (fun k_ hk => (⟨hk, hk.2.2.2.2.2⟩ : _ ∧ k_ ≠ gb138))) (fun _ hk => hk.2) (.slice A137_1 y144.length c137_1)) (fun _ hk => ⟨hk.1.1, ⟨hk.1.2.1, ⟨hk.1.2.2.1, ⟨hk.1.2.2.2.1, ⟨hk.1.2.2.2.2.1, hk.1.2.2.2.2.2⟩⟩⟩⟩⟩)))⟩; have n3_ : Aside0 (Kd.V Kd.string 9 w38 w.heap.size (fun k_ => (P0_0_ k_ ∨ w.heap.size ≤ k_) ∧ some k_ ≠ (u137000 : Value).ownBlock ∧ k_ ≠ gb134 ∧ k_ ≠ gb135 ∧ k_ ≠ gb136 ∧ k_ ≠ gb138) (.slice A137_1 ((rd_T60 l0_0 x4_1).f1).length c137_1) ((rd_T60 l0_0 x4_1).f1)) := ⟨(by rw [hw]; exact (by (with_reducible repeat (first | apply Kd.V_alloc | apply Kd.V_drewN | apply Kd.V_drew)); exact Kd.V_mono (Kd.V_far (p := ⟨gb138, 1, none⟩) (Kd.V_mono HL137_1.out (fun k_ hk => (⟨hk, hk.2.2.2.2.2⟩ : _ ∧ k_ ≠ gb138))) (fun _ hk => hk.2) (.slice A137_1 y144.length c137_1)) (fun _ hk => ⟨hk.1.1, ⟨hk.1.2.1, ⟨hk.1.2.2.1, ⟨hk.1.2.2.2.1, ⟨hk.1.2.2.2.2.1, hk.1.2.2.2.2.2⟩⟩⟩⟩⟩)))⟩; have n4_ : Aside0 (Kd.V Kd.string 9 w38 w.heap.size (fun k_ => (P0_0_ k_ ∨ w.heap.size ≤ k_) ∧ some k_ ≠ (u137000 : Value).ownBlock ∧ k_ ≠ gb134 ∧ k_ ≠ gb135 ∧ k_ ≠ gb136 ∧ k_ ≠ gb138) (.slice A137_0 y139.length c137_0) y139) := ⟨(by rw [hw]; exact (by (with_reducible repeat (first | apply Kd.V_alloc | apply Kd.V_drewN | apply Kd.V_drew)); exact Kd.V_mono (Kd.V_far (p := ⟨gb138, 1, none⟩) (Kd.V_mono HO143.out (fun k_ hk => (⟨hk, hk.2.2.2.2.2⟩ : _ ∧ k_ ≠ gb138))) (fun _ hk => hk.2) (.slice A137_1 y144.length c137_1)) (fun _ hk => ⟨hk.1.1, ⟨hk.1.2.1, ⟨hk.1.2.2.1, ⟨hk.1.2.2.2.1, ⟨hk.1.2.2.2.2.1, hk.1.2.2.2.2.2⟩⟩⟩⟩⟩)))⟩; have n5_ : Aside0 (Kd.V Kd.string 9 w38 w.heap.size (fun k_ => (P0_0_ k_ ∨ w.heap.size ≤ k_) ∧ some k_ ≠ (u137000 : Value).ownBlock ∧ k_ ≠ gb134 ∧ k_ ≠ gb135 ∧ k_ ≠ gb136 ∧ k_ ≠ gb138) (.slice A137_1 y144.length c137_1) y144) := ⟨(by rw [hw]; exact (by (with_reducible repeat (first | apply Kd.V_alloc | apply Kd.V_drewN | apply Kd.V_drew)); exact Kd.V_mono (Kd.V_far (p := ⟨gb138, 1, none⟩) (Kd.V_mono HO148.out (fun k_ hk => (⟨hk, hk.2.2.2.2.2⟩ : _ ∧ k_ ≠ gb138))) (fun _ hk => hk.2) (.slice A137_1 y144.length c137_1)) (fun _ hk => ⟨hk.1.1, ⟨hk.1.2.1, ⟨hk.1.2.2.1, ⟨hk.1.2.2.2.1, ⟨hk.1.2.2.2.2.1, hk.1.2.2.2.2.2⟩⟩⟩⟩⟩)))⟩; have n6_ : Aside0 (w38.heap[gb134]? = some (.cells #[.slice (some ad137) l0_0.length c0_0] 25 (0, 0))) := ⟨(by rw [hw]; exact (by (with_reducible repeat (first | refine blk_drewN ?_ _ | refine blk_drew ?_ | refine blk_alloc ?_ _)); refine blk_far ?_ NB134_138.out _; (with_reducible repeat (first | refine blk_drewN ?_ _ | refine blk_drew ?_ | refine blk_alloc ?_ _)); exact BK134.out))⟩; have n7_ : Aside0 (w38.heap[gb135]? = some (.cells #[.slice none 0 0] 25 (0, 0))) := ⟨(by rw [hw]; exact (by (with_reducible repeat (first | refine blk_drewN ?_ _ | refine blk_drew ?_ | refine blk_alloc ?_ _)); refine blk_far ?_ NB135_138.out _; (with_reducible repeat (first | refine blk_drewN ?_ _ | refine blk_drew ?_ | refine blk_alloc ?_ _)); exact BK135.out))⟩; have n8_ : Aside0 (w38.heap[gb136]? = some (.cells #[u137000] 25 (0, 0))) := ⟨(by rw [hw]; exact (by (with_reducible repeat (first | refine blk_drewN ?_ _ | refine blk_drew ?_ | refine blk_alloc ?_ _)); refine blk_far ?_ NB136_138.out _; (with_reducible repeat (first | refine blk_drewN ?_ _ | refine blk_drew ?_ | refine blk_alloc ?_ _)); exact BK136.out))⟩; have n9_ : Aside0 (w38.heap[gb138]? = some (.cells #[.slice A137_0 y139.length c137_0, .slice A137_1 y144.length c137_1] 60 (0, 0))) := ⟨(by rw [hw]; exact (by (with_reducible repeat (first | refine blk_drewN ?_ _ | refine blk_drew ?_ | refine blk_alloc ?_ _)); refine blk_put (cs := #[.slice A137_0 y139.length c137_0, .slice A137_1 ((rd_T60 l0_0 x4_1).f1).length c137_1]) ?_ 1 _ rfl; (with_reducible repeat (first | refine blk_drewN ?_ _ | refine blk_drew ?_ | refine blk_alloc ?_ _)); exact BK138.out))⟩; have n10_ : Aside0 (Below w.heap.size w w38) := ⟨(by rw [hw]; exact (by repeat (first | (with_reducible first | exact HB.out | apply below_alloc | apply pw_below_drewN | apply below_drew1 | refine below_set ?_ GE134.out | refine below_set ?_ GE135.out | refine below_set ?_ GE136.out | refine below_set ?_ GE138.out) | exact HB.out)))⟩; clear hw; clear HO_135000; clear HO_137000; clear HL137_0; clear HL137_1; clear HO143; clear HO148; clear BK134; clear BK135; clear BK136; clear BK138; clear HB; have HO_135000 := n0_; have HO_137000 := n1_; have HL137_0 := n2_; have HL137_1 := n3_; have HO143 := n4_; have HO148 := n5_; have BK134 := n6_; have BK135 := n7_; have BK136 := n8_; have BK138 := n9_; have HB := n10_; clear n0_ n1_ n2_ n3_ n4_ n5_ n6_ n7_ n8_ n9_ n10_; have hnb39 := NB136_135.out; have hnc39 := NB135_136.out; have hcz40_0 : w38.cell? ⟨gb136, 0, none⟩ = some (u137000) := (blk_cell BK136.out 0).trans rfl; have hfz40_0 := blk_frozen BK136.out 0; have hcz41_0 : w38.cell? ⟨gb138, 0, none⟩ = some (.slice A137_0 y139.length c137_0) := (blk_cell BK138.out 0).trans rfl; have hcz41_1 : w38.cell? ⟨gb138, 1, none⟩ = some (.slice A137_1 y144.length c137_1) := (blk_cell BK138.out 1).trans rfl; have hfz41_0 := blk_frozen BK138.out 0; have hfz41_1 := blk_frozen BK138.out 1) | ((with_reducible refine gate_builtin (b := .append) (xs := #[.tmp 40, .tmp 42]) rfl ?_); at_builtin; refine Kd.N_append k60 (w0 := w) w.heap.size rfl (.tmp 40) (.tmp 42) 23 60 (.agg #[(.slice none 0 0), (.slice none 0 0)]) 48 rfl Try.underlying23 info60 rfl (by decide) (by omega) u137000 x137000_1 (⟨y139, y144⟩ : S60) [.slice A137_0 y139.length c137_0, .slice A137_1 y144.length c137_1] (fun k_ => (P0_0_ k_ ∨ w.heap.size ≤ k_) ∧ k_ ≠ gb134 ∧ k_ ≠ gb135 ∧ k_ ≠ gb136 ∧ k_ ≠ gb138) (fun k_ => ((fun k_ => (P0_0_ k_ ∨ w.heap.size ≤ k_) ∧ k_ ≠ gb134 ∧ k_ ≠ gb135 ∧ k_ ≠ gb136 ∧ k_ ≠ gb138)) k_ ∧ some k_ ≠ (u137000 : Value).ownBlock) rfl rfl ?aP (fun _ hk => hk) ?aF ?aO ?aB ?aS ?aL ?_; (case aP => exact (k60_mkF _ _ (⟨y139, y144⟩ : S60) (Kd.V_reads' (Kd.V_mono (ok' := (fun k_ => ((fun k_ => (P0_0_ k_ ∨ w.heap.size ≤ k_) ∧ k_ ≠ gb134 ∧ k_ ≠ gb135 ∧ k_ ≠ gb136 ∧ k_ ≠ gb138)) k_ ∧ some k_ ≠ (u137000 : Value).ownBlock)) (HO143.out) (fun k_ hk => ⟨⟨hk.1, ⟨hk.2.2.1, ⟨hk.2.2.2.1, ⟨hk.2.2.2.2.1, hk.2.2.2.2.2⟩⟩⟩⟩, hk.2.1⟩))).2.1 (Kd.V_F (Kd.V_mono (ok' := (fun k_ => ((fun k_ => (P0_0_ k_ ∨ w.heap.size ≤ k_) ∧ k_ ≠ gb134 ∧ k_ ≠ gb135 ∧ k_ ≠ gb136 ∧ k_ ≠ gb138)) k_ ∧ some k_ ≠ (u137000 : Value).ownBlock)) (HO143.out) (fun k_ hk => ⟨⟨hk.1, ⟨hk.2.2.1, ⟨hk.2.2.2.1, ⟨hk.2.2.2.2.1, hk.2.2.2.2.2⟩⟩⟩⟩, hk.2.1⟩))) (Kd.V_reads' (Kd.V_mono (ok' := (fun k_ => ((fun k_ => (P0_0_ k_ ∨ w.heap.size ≤ k_) ∧ k_ ≠ gb134 ∧ k_ ≠ gb135 ∧ k_ ≠ gb136 ∧ k_ ≠ gb138)) k_ ∧ some k_ ≠ (u137000 : Value).ownBlock)) (HO148.out) (fun k_ hk => ⟨⟨hk.1, ⟨hk.2.2.1, ⟨hk.2.2.2.1, ⟨hk.2.2.2.2.1, hk.2.2.2.2.2⟩⟩⟩⟩, hk.2.1⟩))).2.1 (Kd.V_F (Kd.V_mono (ok' := (fun k_ => ((fun k_ => (P0_0_ k_ ∨ w.heap.size ≤ k_) ∧ k_ ≠ gb134 ∧ k_ ≠ gb135 ∧ k_ ≠ gb136 ∧ k_ ≠ gb138)) k_ ∧ some k_ ≠ (u137000 : Value).ownBlock)) (HO148.out) (fun k_ hk => ⟨⟨hk.1, ⟨hk.2.2.1, ⟨hk.2.2.2.1, ⟨hk.2.2.2.2.1, hk.2.2.2.2.2⟩⟩⟩⟩, hk.2.1⟩))))); (case aB => exact (by repeat (first | (with_reducible first | exact HB.out | apply below_alloc | apply pw_below_drewN | apply below_drew1 | refine below_set ?_ GE134.out | refine below_set ?_ GE135.out | refine below_set ?_ GE136.out | refine below_set ?_ GE138.out) | exact HB.out))); (case aF => exact (fun k_ hk => ⟨(.inr (Nat.le_trans (below_size (by repeat (first | (with_reducible first | exact HB.out | apply below_alloc | apply pw_below_drewN | apply below_drew1 | refine below_set ?_ GE134.out | refine below_set ?_ GE135.out | refine below_set ?_ GE136.out | refine below_set ?_ GE138.out) | exact HB.out))) hk)), Kd.freshB (g := gb134) (o := .cells #[.slice (some ad137) l0_0.length c0_0] 25 (0, 0)) (by (with_reducible repeat (first | refine blk_drewN ?_ _ | refine blk_drew ?_ | refine blk_alloc ?_ _)); exact BK134.out) k_ hk, Kd.freshB (g := gb135) (o := .cells #[.slice none 0 0] 25 (0, 0)) (by (with_reducible repeat (first | refine blk_drewN ?_ _ | refine blk_drew ?_ | refine blk_alloc ?_ _)); exact BK135.out) k_ hk, Kd.freshB (g := gb136) (o := .cells #[u137000] 25 (0, 0)) (by (with_reducible repeat (first | refine blk_drewN ?_ _ | refine blk_drew ?_ | refine blk_alloc ?_ _)); exact BK136.out) k_ hk, Kd.freshB (g := gb138) (o := .cells #[.slice A137_0 y139.length c137_0, .slice A137_1 y144.length c137_1] 60 (0, 0)) (by (with_reducible repeat (first | refine blk_drewN ?_ _ | refine blk_drew ?_ | refine blk_alloc ?_ _)); exact BK138.out) k_ hk⟩)); (case aO => exact (by (with_reducible repeat (first | apply Kd.N_alloc | apply Kd.N_drewN | apply Kd.N_drew)); exact HO_137000.out)); (case aS => exact (below_size (by repeat (first | (with_reducible first | exact HB.out | apply below_alloc | apply pw_below_drewN | apply below_drew1 | refine below_set ?_ GE134.out | refine below_set ?_ GE135.out | refine below_set ?_ GE136.out | refine below_set ?_ GE138.out) | exact HB.out)))); (case aL => have := LMc23.out; omega); intro v150 w42 ho hb hg hat; rw [← Ny149.out] at ho; have n0_ := Aside0.mk (Kd.V_afterv (ok := (fun k_ => (P0_0_ k_ ∨ w.heap.size ≤ k_) ∧ k_ ≠ gb134 ∧ k_ ≠ gb135 ∧ k_ ≠ gb136 ∧ k_ ≠ gb138)) (by (with_reducible repeat (first | apply Kd.V_alloc | apply Kd.V_drewN | apply Kd.V_drew)); exact Kd.V_mono HO_135000.out (fun _ hk => ⟨⟨hk.1, ⟨hk.2.2.1, ⟨hk.2.2.2.1, ⟨hk.2.2.2.2.1, hk.2.2.2.2.2⟩⟩⟩⟩, hk.2.1⟩)) hg hat); have n1_ := Aside0.mk (blk_grown (g := gb134) (o := .cells #[.slice (some ad137) l0_0.length c0_0] 25 (0, 0)) (by (with_reducible repeat (first | refine blk_drewN ?_ _ | refine blk_drew ?_ | refine blk_alloc ?_ _)); exact BK134.out) hg (Kd.N_ne HO_137000.out BK134.out (by decide))); have n2_ := Aside0.mk (blk_grown (g := gb135) (o := .cells #[.slice none 0 0] 25 (0, 0)) (by (with_reducible repeat (first | refine blk_drewN ?_ _ | refine blk_drew ?_ | refine blk_alloc ?_ _)); exact BK135.out) hg (Kd.N_ne HO_137000.out BK135.out (by decide))); have n3_ := Aside0.mk (blk_grown (g := gb136) (o := .cells #[u137000] 25 (0, 0)) (by (with_reducible repeat (first | refine blk_drewN ?_ _ | refine blk_drew ?_ | refine blk_alloc ?_ _)); exact BK136.out) hg (Kd.N_ne HO_137000.out BK136.out (by decide))); have n4_ := Aside0.mk (Kd.V_afterv (ok := (fun k_ => (P0_0_ k_ ∨ w.heap.size ≤ k_) ∧ k_ ≠ gb134 ∧ k_ ≠ gb135 ∧ k_ ≠ gb136 ∧ k_ ≠ gb138)) (by (with_reducible repeat (first | apply Kd.V_alloc | apply Kd.V_drewN | apply Kd.V_drew)); exact Kd.V_mono HL137_0.out (fun _ hk => ⟨⟨hk.1, ⟨hk.2.2.1, ⟨hk.2.2.2.1, ⟨hk.2.2.2.2.1, hk.2.2.2.2.2⟩⟩⟩⟩, hk.2.1⟩)) hg hat); have n5_ := Aside0.mk (Kd.V_afterv (ok := (fun k_ => (P0_0_ k_ ∨ w.heap.size ≤ k_) ∧ k_ ≠ gb134 ∧ k_ ≠ gb135 ∧ k_ ≠ gb136 ∧ k_ ≠ gb138)) (by (with_reducible repeat (first | apply Kd.V_alloc | apply Kd.V_drewN | apply Kd.V_drew)); exact Kd.V_mono HL137_1.out (fun _ hk => ⟨⟨hk.1, ⟨hk.2.2.1, ⟨hk.2.2.2.1, ⟨hk.2.2.2.2.1, hk.2.2.2.2.2⟩⟩⟩⟩, hk.2.1⟩)) hg hat); have n6_ := Aside0.mk (blk_grown (g := gb138) (o := .cells #[.slice A137_0 y139.length c137_0, .slice A137_1 y144.length c137_1] 60 (0, 0)) (by (with_reducible repeat (first | refine blk_drewN ?_ _ | refine blk_drew ?_ | refine blk_alloc ?_ _)); exact BK138.out) hg (Kd.N_away HO_137000.out (fun _ hk => hk.2.2.2.2))); have n7_ := Aside0.mk (Kd.V_afterv (ok := (fun k_ => (P0_0_ k_ ∨ w.heap.size ≤ k_) ∧ k_ ≠ gb134 ∧ k_ ≠ gb135 ∧ k_ ≠ gb136 ∧ k_ ≠ gb138)) (by (with_reducible repeat (first | apply Kd.V_alloc | apply Kd.V_drewN | apply Kd.V_drew)); exact Kd.V_mono HO143.out (fun _ hk => ⟨⟨hk.1, ⟨hk.2.2.1, ⟨hk.2.2.2.1, ⟨hk.2.2.2.2.1, hk.2.2.2.2.2⟩⟩⟩⟩, hk.2.1⟩)) hg hat); have n8_ := Aside0.mk (Kd.V_afterv (ok := (fun k_ => (P0_0_ k_ ∨ w.heap.size ≤ k_) ∧ k_ ≠ gb134 ∧ k_ ≠ gb135 ∧ k_ ≠ gb136 ∧ k_ ≠ gb138)) (by (with_reducible repeat (first | apply Kd.V_alloc | apply Kd.V_drewN | apply Kd.V_drew)); exact Kd.V_mono HO148.out (fun _ hk => ⟨⟨hk.1, ⟨hk.2.2.1, ⟨hk.2.2.2.1, ⟨hk.2.2.2.2.1, hk.2.2.2.2.2⟩⟩⟩⟩, hk.2.1⟩)) hg hat); have n9_ := Aside0.mk (hb); have n10_ := Aside0.mk (ho); clear HO_135000; clear BK134; clear BK135; clear BK136; clear HL137_0; clear HL137_1; clear BK138; clear HO143; clear HO148; clear HB; clear HO_137000; have HO_135000 := n0_; have BK134 := n1_; have BK135 := n2_; have BK136 := n3_; have HL137_0 := n4_; have HL137_1 := n5_; have BK138 := n6_; have HO143 := n7_; have HO148 := n8_; have HB := n9_; have HO151 := n10_; clear n0_ n1_ n2_ n3_ n4_ n5_ n6_ n7_ n8_ n9_ n10_; clear ho hb hg hat; obtain ⟨Ao43, co43, eo43⟩ := Kd.N_slice HO151.out; subst eo43; have hcz44_0 : w42.cell? ⟨gb136, 0, none⟩ = some (u137000) := (blk_cell BK136.out 0).trans rfl; have hfz44_0 := blk_frozen BK136.out 0))
                          go_roundg kj7
                          case measure => have := HK1.out; have := HJ7.out; omega
                          case rel => exact ⟨(wrap64 (x4_1 + 1)), (y149), (.slice Ao43 y149.length co43), (by first | rfl | (simp; done) | (simp [*]; done)), H', ⟨by have := HK1.out; have := HJ7.out; omega⟩, ⟨by (with_reducible repeat (first | apply Kd.V_alloc | apply Kd.V_drewN | apply Kd.V_drew)); exact Kd.V_mono (Kd.V_far (p := ⟨gb136, 0, none⟩) (Kd.V_mono HO_135000.out (fun k_ hk => (⟨hk, hk.1.2.2.2.1⟩ : _ ∧ k_ ≠ gb136))) (fun _ hk => hk.2) (.slice Ao43 y149.length co43)) (fun _ hk => ⟨hk.1.1.1, ⟨hk.1.2, ⟨hk.1.1.2.1, ⟨hk.1.1.2.2.1, hk.1.1.2.2.2.1⟩⟩⟩⟩)⟩, ⟨by (with_reducible repeat (first | apply Kd.N_alloc | apply Kd.N_drewN | apply Kd.N_drew)); exact Kd.N_mono (Kd.N_far (p := ⟨gb136, 0, none⟩) (Kd.N_mono HO151.out (fun k_ hk => (⟨hk, hk.2.2.2.1⟩ : _ ∧ k_ ≠ gb136))) (fun _ hk => hk.2) (.slice Ao43 y149.length co43)) (fun _ hk => ⟨hk.1.1, ⟨hk.1.2.1, ⟨hk.1.2.2.1, hk.1.2.2.2.1⟩⟩⟩)⟩, ⟨by (with_reducible repeat (first | refine blk_drewN ?_ _ | refine blk_drew ?_ | refine blk_alloc ?_ _)); refine blk_far ?_ NB134_136.out _; (with_reducible repeat (first | refine blk_drewN ?_ _ | refine blk_drew ?_ | refine blk_alloc ?_ _)); exact BK134.out⟩, ⟨by (with_reducible repeat (first | refine blk_drewN ?_ _ | refine blk_drew ?_ | refine blk_alloc ?_ _)); refine blk_far ?_ NB135_136.out _; (with_reducible repeat (first | refine blk_drewN ?_ _ | refine blk_drew ?_ | refine blk_alloc ?_ _)); exact BK135.out⟩, ⟨by (with_reducible repeat (first | refine blk_drewN ?_ _ | refine blk_drew ?_ | refine blk_alloc ?_ _)); refine blk_put (cs := #[u137000]) ?_ 0 _ rfl; (with_reducible repeat (first | refine blk_drewN ?_ _ | refine blk_drew ?_ | refine blk_alloc ?_ _)); exact BK136.out⟩, ⟨by repeat (first | (with_reducible first | exact HB.out | apply below_alloc | apply pw_below_drewN | apply below_drew1 | refine below_set ?_ GE134.out | refine below_set ?_ GE135.out | refine below_set ?_ GE136.out | refine below_set ?_ GE138.out) | exact HB.out)⟩⟩
                        · rw [if_neg c23] at H
                          exact absurd H (by simp)
                      · rw [if_neg c22] at H
                        exact absurd H (by simp)
                    · rw [if_neg c21] at H
                      have c21b0 : decide (8 < (((rd_T60 l0_0 x4_1).f1).length : Int)) = false := decide_eq_false c21
                      have c21b1 : decide (8 < ((rd_T60 l0_0 x4_1).f1).length) = false := decide_eq_false (by omega)
                      clear c21
                      by_cases c45 : x137000_1.length < 2932031007402
                      · rw [if_pos c45] at H
                        have LMc45 := Aside0.mk c45
                        clear c45
                        obtain ⟨y152, hy152⟩ : ∃ y_ : List (S60), y_ = (x137000_1 ++ [(⟨y139, (rd_T60 l0_0 x4_1).f1⟩ : S60)]) := ⟨_, rfl⟩
                        replace H : (registrarlaw07_few.l0 kj7 (wrap64 (x4_1 + 1)) l0_0 y152) = some r := by first | (rw [hy152]; with_reducible exact H) | (have H2_ := (Option.bind_some _ _).symm.trans H; rw [hy152]; with_reducible exact H2_) | (have H2_ := (Option.bind_some _ _).symm.trans H; with_reducible exact H2_) | with_reducible exact H | (rw [hy152]; exact H) | exact H
                        have Ny152 := Aside0.mk hy152
                        clear hy152
                        have H' := Aside0.mk H
                        clear H
                        have hnb46 := NB134_135.out
                        have hnc46 := NB135_134.out
                        have hnb47 := NB134_136.out
                        have hnc47 := NB136_134.out
                        have hcz48_0 : wc.cell? ⟨gb134, 0, none⟩ = some (.slice A0_0 l0_0.length c0_0) := (blk_cell BK134.out 0).trans rfl
                        have hfz48_0 := blk_frozen BK134.out 0
                        have p137 : 0 ≤ (x4_1 : Int) := of_decide_eq_true (by first | (with_reducible assumption) | assumption)
                        have q137 : x4_1 < (l0_0.length : Int) := of_decide_eq_true (by first | (with_reducible assumption) | assumption)
                        obtain ⟨ad137, A137_0, c137_0, A137_1, c137_1, e137, hx137_0, hx137_1, hl137_0, hi137_0, hl137_1, hi137_1⟩ := at_T60 (Kd.V_reads' HO_135000.out).2.2 x4_1 p137 q137
                        cases e137
                        obtain ⟨ce137, hce137, hMe137, hcc137⟩ := Kd.V_get HO_135000.out z60 x4_1 p137 (by first | exact q137 | exact of_decide_eq_true (by first | (with_reducible assumption) | assumption) | (have e_ := (Kd.V_reads' HO_135000.out).1; omega))
                        obtain ⟨ua137_0, uc137_0, ua137_1, uc137_1, rfl, ul137_0, ge137_0, ul137_1, ge137_1⟩ := k60_openF hMe137
                        have hv137_0 := hcc137 0 _ rfl
                        rw [Nat.add_zero] at hv137_0
                        replace hv137_0 := Option.some.inj (hv137_0.symm.trans hx137_0)
                        injection hv137_0 with hva_ hvn_ hvc_
                        rw [hva_] at ge137_0
                        rw [hvc_] at ul137_0
                        have HL137_0 := Aside0.mk (show Kd.V Kd.string 9 _ w.heap.size _ _ ((rd_T60 l0_0 x4_1).f0) from Kd.V_mk ul137_0 ge137_0)
                        clear hva_ hvn_ hvc_ ge137_0 ul137_0
                        have hv137_1 := hcc137 1 _ rfl
                        rw [add_field _ _ 1 (by omega)] at hv137_1
                        replace hv137_1 := Option.some.inj (hv137_1.symm.trans hx137_1)
                        injection hv137_1 with hva_ hvn_ hvc_
                        rw [hva_] at ge137_1
                        rw [hvc_] at ul137_1
                        have HL137_1 := Aside0.mk (show Kd.V Kd.string 9 _ w.heap.size _ _ ((rd_T60 l0_0 x4_1).f1) from Kd.V_mk ul137_1 ge137_1)
                        clear hva_ hvn_ hvc_ ge137_1 ul137_1
                        clear hcc137 hce137
                        have HR137_0 := Aside0.mk hi137_0
                        have HC137_0 := Aside0.mk hl137_0
                        clear hi137_0 hl137_0
                        have HR137_1 := Aside0.mk hi137_1
                        have HC137_1 := Aside0.mk hl137_1
                        clear hi137_1 hl137_1
                        replace p137 := eq_true p137
                        replace q137 := eq_true q137
                        go_wp2_with (first | ((with_reducible refine gate_dst (N := 5) rfl ?_); refine box_event ?hg (N := 5) ?hd (cs := #[.slice none 0 0, .slice none 0 0]) (t := 60) ?hr ?_; (case hd => rfl); (case hg => rfl); (case hr => first | (go_simp; done) | (go_simp; rfl)); intro gb138 hg w49 hbox hb; have n0_ := Aside0.mk (Kd.V_below (Kd.V_elderB (by (with_reducible repeat (first | apply Kd.V_alloc | apply Kd.V_drewN | apply Kd.V_drew)); exact HO_135000.out) gb138 (Nat.le_of_eq hg.symm)) hb); have n1_ := Aside0.mk (Kd.N_below (Kd.N_elderB (by (with_reducible repeat (first | apply Kd.N_alloc | apply Kd.N_drewN | apply Kd.N_drew)); exact HO_137000.out) gb138 (Nat.le_of_eq hg.symm)) hb); have n2_ := Aside0.mk (Kd.V_below (Kd.V_elderB (by (with_reducible repeat (first | apply Kd.V_alloc | apply Kd.V_drewN | apply Kd.V_drew)); exact HL137_0.out) gb138 (Nat.le_of_eq hg.symm)) hb); have n3_ := Aside0.mk (Kd.V_below (Kd.V_elderB (by (with_reducible repeat (first | apply Kd.V_alloc | apply Kd.V_drewN | apply Kd.V_drew)); exact HL137_1.out) gb138 (Nat.le_of_eq hg.symm)) hb); have n4_ := Aside0.mk (blk_below (g := gb134) (o := .cells #[.slice (some ad137) l0_0.length c0_0] 25 (0, 0)) (by (with_reducible repeat (first | refine blk_drewN ?_ _ | refine blk_drew ?_ | refine blk_alloc ?_ _)); exact BK134.out) hb); have n5_ := Aside0.mk (blk_below (g := gb135) (o := .cells #[.slice none 0 0] 25 (0, 0)) (by (with_reducible repeat (first | refine blk_drewN ?_ _ | refine blk_drew ?_ | refine blk_alloc ?_ _)); exact BK135.out) hb); have n6_ := Aside0.mk (blk_below (g := gb136) (o := .cells #[u137000] 25 (0, 0)) (by (with_reducible repeat (first | refine blk_drewN ?_ _ | refine blk_drew ?_ | refine blk_alloc ?_ _)); exact BK136.out) hb); have n7_ := Aside0.mk (Kd.C_below (by repeat (first | (with_reducible exact HR137_0.out) | (with_reducible refine Kd.C_alloc ?_ _) | (with_reducible refine Kd.C_drewN ?_ _) | (with_reducible refine Kd.C_drew ?_) | exact HR137_0.out | exact (Kd.V_reads' HL137_0.out).2.2)) hb); have n8_ := Aside0.mk (Kd.C_below (by repeat (first | (with_reducible exact HR137_1.out) | (with_reducible refine Kd.C_alloc ?_ _) | (with_reducible refine Kd.C_drewN ?_ _) | (with_reducible refine Kd.C_drew ?_) | exact HR137_1.out | exact (Kd.V_reads' HL137_1.out).2.2)) hb); have n9_ := Aside0.mk (below_step (by repeat (first | (with_reducible first | exact HB.out | apply below_alloc | apply pw_below_drewN | apply below_drew1 | refine below_set ?_ GE134.out | refine below_set ?_ GE135.out | refine below_set ?_ GE136.out) | exact HB.out)) hb); have n10_ := Aside0.mk (hbox); have n11_ := Aside0.mk ((by rw [hg]; exact (below_size (by repeat (first | (with_reducible first | exact HB.out | apply below_alloc | apply pw_below_drewN | apply below_drew1 | refine below_set ?_ GE134.out | refine below_set ?_ GE135.out | refine below_set ?_ GE136.out) | exact HB.out))) : w.heap.size ≤ gb138)); have n12_ := Aside0.mk ((by rw [hg]; exact (below_size (by repeat (first | (with_reducible first | exact HB.out | apply below_alloc | apply pw_below_drewN | apply below_drew1 | refine below_set ?_ GE134.out | refine below_set ?_ GE135.out | refine below_set ?_ GE136.out) | exact HB.out))) : w.heap.size ≤ gb138)); have n13_ := Aside0.mk ((by rw [hg]; exact Nat.ne_of_lt (blk_lt (g := gb134) (o := .cells #[.slice (some ad137) l0_0.length c0_0] 25 (0, 0)) (by (with_reducible repeat (first | refine blk_drewN ?_ _ | refine blk_drew ?_ | refine blk_alloc ?_ _)); exact BK134.out)) : gb134 ≠ gb138)); have n14_ := Aside0.mk ((by rw [hg]; exact Nat.ne_of_gt (blk_lt (g := gb134) (o := .cells #[.slice (some ad137) l0_0.length c0_0] 25 (0, 0)) (by (with_reducible repeat (first | refine blk_drewN ?_ _ | refine blk_drew ?_ | refine blk_alloc ?_ _)); exact BK134.out)) : gb138 ≠ gb134)); have n15_ := Aside0.mk ((by rw [hg]; exact Nat.ne_of_lt (blk_lt (g := gb135) (o := .cells #[.slice none 0 0] 25 (0, 0)) (by (with_reducible repeat (first | refine blk_drewN ?_ _ | refine blk_drew ?_ | refine blk_alloc ?_ _)); exact BK135.out)) : gb135 ≠ gb138)); have n16_ := Aside0.mk ((by rw [hg]; exact Nat.ne_of_gt (blk_lt (g := gb135) (o := .cells #[.slice none 0 0] 25 (0, 0)) (by (with_reducible repeat (first | refine blk_drewN ?_ _ | refine blk_drew ?_ | refine blk_alloc ?_ _)); exact BK135.out)) : gb138 ≠ gb135)); have n17_ := Aside0.mk ((by rw [hg]; exact Nat.ne_of_lt (blk_lt (g := gb136) (o := .cells #[u137000] 25 (0, 0)) (by (with_reducible repeat (first | refine blk_drewN ?_ _ | refine blk_drew ?_ | refine blk_alloc ?_ _)); exact BK136.out)) : gb136 ≠ gb138)); have n18_ := Aside0.mk ((by rw [hg]; exact Nat.ne_of_gt (blk_lt (g := gb136) (o := .cells #[u137000] 25 (0, 0)) (by (with_reducible repeat (first | refine blk_drewN ?_ _ | refine blk_drew ?_ | refine blk_alloc ?_ _)); exact BK136.out)) : gb138 ≠ gb136)); clear HO_135000; clear HO_137000; clear HL137_0; clear HL137_1; clear BK134; clear BK135; clear BK136; clear HR137_0; clear HR137_1; clear HB; have HO_135000 := n0_; have HO_137000 := n1_; have HL137_0 := n2_; have HL137_1 := n3_; have BK134 := n4_; have BK135 := n5_; have BK136 := n6_; have HR137_0 := n7_; have HR137_1 := n8_; have HB := n9_; have BK138 := n10_; have GW138 := n11_; have GE138 := n12_; have NB134_138 := n13_; have NB138_134 := n14_; have NB135_138 := n15_; have NB138_135 := n16_; have NB136_138 := n17_; have NB138_136 := n18_; clear n0_ n1_ n2_ n3_ n4_ n5_ n6_ n7_ n8_ n9_ n10_ n11_ n12_ n13_ n14_ n15_ n16_ n17_ n18_; clear hb hbox hg; have hnb50 := NB138_134.out; have hnc50 := NB134_138.out; have hnb51 := NB138_135.out; have hnc51 := NB135_138.out; have hnb52 := NB138_136.out; have hnc52 := NB136_138.out; have hcz53_0 : w49.cell? ⟨gb138, 0, none⟩ = some (.slice none 0 0) := (blk_cell BK138.out 0).trans rfl; have hcz53_1 : w49.cell? ⟨gb138, 1, none⟩ = some (.slice none 0 0) := (blk_cell BK138.out 1).trans rfl; have hfz53_0 := blk_frozen BK138.out 0; have hfz53_1 := blk_frozen BK138.out 1) | ((with_reducible refine gate_store (t := 60) (p := 5) rfl ?_); refine store_event (t := 60) (p := 5) (v := ?vo_w54) (w1 := ((w49.setCell ⟨gb138, 0, none⟩ (.slice A137_0 ((rd_T60 l0_0 x4_1).f0).length c137_0)).setCell ⟨gb138, 1, none⟩ (.slice A137_1 ((rd_T60 l0_0 x4_1).f1).length c137_1))) ?hg ?ho ?hn ?hr ?_; (case ho => rfl); (case hg => rfl); (case hn => rfl); (case hr => first | (go_simp; done) | (go_simp; rfl)); intro w54 hw; have n0_ : Aside0 (Kd.V k60 60 w54 w.heap.size (fun k_ => (P0_0_ k_ ∨ w.heap.size ≤ k_) ∧ some k_ ≠ (u137000 : Value).ownBlock ∧ k_ ≠ gb134 ∧ k_ ≠ gb135 ∧ k_ ≠ gb136 ∧ k_ ≠ gb138) (.slice (some ad137) l0_0.length c0_0) l0_0) := ⟨(by rw [hw]; exact (by (with_reducible repeat (first | apply Kd.V_alloc | apply Kd.V_drewN | apply Kd.V_drew)); exact Kd.V_mono (Kd.V_far (p := ⟨gb138, 1, none⟩) (Kd.V_far (p := ⟨gb138, 0, none⟩) (Kd.V_mono HO_135000.out (fun k_ hk => (⟨hk, hk.2⟩ : _ ∧ k_ ≠ gb138))) (fun _ hk => hk.2) (.slice A137_0 ((rd_T60 l0_0 x4_1).f0).length c137_0)) (fun _ hk => hk.2) (.slice A137_1 ((rd_T60 l0_0 x4_1).f1).length c137_1)) (fun _ hk => ⟨hk.1.1.1, ⟨hk.1.1.2.1, ⟨hk.1.1.2.2.1, ⟨hk.1.1.2.2.2.1, ⟨hk.1.1.2.2.2.2, hk.1.2⟩⟩⟩⟩⟩)))⟩; have n1_ : Aside0 (Kd.N k60 60 w54 w.heap.size (fun k_ => (P0_0_ k_ ∨ w.heap.size ≤ k_) ∧ k_ ≠ gb134 ∧ k_ ≠ gb135 ∧ k_ ≠ gb136 ∧ k_ ≠ gb138) u137000 x137000_1) := ⟨(by rw [hw]; exact (by (with_reducible repeat (first | apply Kd.N_alloc | apply Kd.N_drewN | apply Kd.N_drew)); exact Kd.N_mono (Kd.N_far (p := ⟨gb138, 1, none⟩) (Kd.N_far (p := ⟨gb138, 0, none⟩) (Kd.N_mono HO_137000.out (fun k_ hk => (⟨hk, hk.2⟩ : _ ∧ k_ ≠ gb138))) (fun _ hk => hk.2) (.slice A137_0 ((rd_T60 l0_0 x4_1).f0).length c137_0)) (fun _ hk => hk.2) (.slice A137_1 ((rd_T60 l0_0 x4_1).f1).length c137_1)) (fun _ hk => ⟨hk.1.1.1, ⟨hk.1.1.2.1, ⟨hk.1.1.2.2.1, ⟨hk.1.1.2.2.2, hk.1.2⟩⟩⟩⟩)))⟩; have n2_ : Aside0 (Kd.V Kd.string 9 w54 w.heap.size (fun k_ => (P0_0_ k_ ∨ w.heap.size ≤ k_) ∧ some k_ ≠ (u137000 : Value).ownBlock ∧ k_ ≠ gb134 ∧ k_ ≠ gb135 ∧ k_ ≠ gb136 ∧ k_ ≠ gb138) (.slice A137_0 ((rd_T60 l0_0 x4_1).f0).length c137_0) ((rd_T60 l0_0 x4_1).f0)) := ⟨(by rw [hw]; exact (by (with_reducible repeat (first | apply Kd.V_alloc | apply Kd.V_drewN | apply Kd.V_drew)); exact Kd.V_mono (Kd.V_far (p := ⟨gb138, 1, none⟩) (Kd.V_far (p := ⟨gb138, 0, none⟩) (Kd.V_mono HL137_0.out (fun k_ hk => (⟨hk, hk.2⟩ : _ ∧ k_ ≠ gb138))) (fun _ hk => hk.2) (.slice A137_0 ((rd_T60 l0_0 x4_1).f0).length c137_0)) (fun _ hk => hk.2) (.slice A137_1 ((rd_T60 l0_0 x4_1).f1).length c137_1)) (fun _ hk => ⟨hk.1.1.1, ⟨hk.1.1.2.1, ⟨hk.1.1.2.2.1, ⟨hk.1.1.2.2.2.1, ⟨hk.1.1.2.2.2.2, hk.1.2⟩⟩⟩⟩⟩)))⟩; have n3_ : Aside0 (Kd.V Kd.string 9 w54 w.heap.size (fun k_ => (P0_0_ k_ ∨ w.heap.size ≤ k_) ∧ some k_ ≠ (u137000 : Value).ownBlock ∧ k_ ≠ gb134 ∧ k_ ≠ gb135 ∧ k_ ≠ gb136 ∧ k_ ≠ gb138) (.slice A137_1 ((rd_T60 l0_0 x4_1).f1).length c137_1) ((rd_T60 l0_0 x4_1).f1)) := ⟨(by rw [hw]; exact (by (with_reducible repeat (first | apply Kd.V_alloc | apply Kd.V_drewN | apply Kd.V_drew)); exact Kd.V_mono (Kd.V_far (p := ⟨gb138, 1, none⟩) (Kd.V_far (p := ⟨gb138, 0, none⟩) (Kd.V_mono HL137_1.out (fun k_ hk => (⟨hk, hk.2⟩ : _ ∧ k_ ≠ gb138))) (fun _ hk => hk.2) (.slice A137_0 ((rd_T60 l0_0 x4_1).f0).length c137_0)) (fun _ hk => hk.2) (.slice A137_1 ((rd_T60 l0_0 x4_1).f1).length c137_1)) (fun _ hk => ⟨hk.1.1.1, ⟨hk.1.1.2.1, ⟨hk.1.1.2.2.1, ⟨hk.1.1.2.2.2.1, ⟨hk.1.1.2.2.2.2, hk.1.2⟩⟩⟩⟩⟩)))⟩; have n4_ : Aside0 (w54.heap[gb134]? = some (.cells #[.slice (some ad137) l0_0.length c0_0] 25 (0, 0))) := ⟨(by rw [hw]; exact (by (with_reducible repeat (first | refine blk_drewN ?_ _ | refine blk_drew ?_ | refine blk_alloc ?_ _)); refine blk_far ?_ NB134_138.out _; (with_reducible repeat (first | refine blk_drewN ?_ _ | refine blk_drew ?_ | refine blk_alloc ?_ _)); refine blk_far ?_ NB134_138.out _; (with_reducible repeat (first | refine blk_drewN ?_ _ | refine blk_drew ?_ | refine blk_alloc ?_ _)); exact BK134.out))⟩; have n5_ : Aside0 (w54.heap[gb135]? = some (.cells #[.slice none 0 0] 25 (0, 0))) := ⟨(by rw [hw]; exact (by (with_reducible repeat (first | refine blk_drewN ?_ _ | refine blk_drew ?_ | refine blk_alloc ?_ _)); refine blk_far ?_ NB135_138.out _; (with_reducible repeat (first | refine blk_drewN ?_ _ | refine blk_drew ?_ | refine blk_alloc ?_ _)); refine blk_far ?_ NB135_138.out _; (with_reducible repeat (first | refine blk_drewN ?_ _ | refine blk_drew ?_ | refine blk_alloc ?_ _)); exact BK135.out))⟩; have n6_ : Aside0 (w54.heap[gb136]? = some (.cells #[u137000] 25 (0, 0))) := ⟨(by rw [hw]; exact (by (with_reducible repeat (first | refine blk_drewN ?_ _ | refine blk_drew ?_ | refine blk_alloc ?_ _)); refine blk_far ?_ NB136_138.out _; (with_reducible repeat (first | refine blk_drewN ?_ _ | refine blk_drew ?_ | refine blk_alloc ?_ _)); refine blk_far ?_ NB136_138.out _; (with_reducible repeat (first | refine blk_drewN ?_ _ | refine blk_drew ?_ | refine blk_alloc ?_ _)); exact BK136.out))⟩; have n7_ : Aside0 (w54.heap[gb138]? = some (.cells #[.slice A137_0 ((rd_T60 l0_0 x4_1).f0).length c137_0, .slice A137_1 ((rd_T60 l0_0 x4_1).f1).length c137_1] 60 (0, 0))) := ⟨(by rw [hw]; exact (by (with_reducible repeat (first | refine blk_drewN ?_ _ | refine blk_drew ?_ | refine blk_alloc ?_ _)); refine blk_put (cs := #[.slice A137_0 ((rd_T60 l0_0 x4_1).f0).length c137_0, .slice none 0 0]) ?_ 1 _ rfl; (with_reducible repeat (first | refine blk_drewN ?_ _ | refine blk_drew ?_ | refine blk_alloc ?_ _)); refine blk_put (cs := #[.slice none 0 0, .slice none 0 0]) ?_ 0 _ rfl; (with_reducible repeat (first | refine blk_drewN ?_ _ | refine blk_drew ?_ | refine blk_alloc ?_ _)); exact BK138.out))⟩; have n8_ : Aside0 (Below w.heap.size w w54) := ⟨(by rw [hw]; exact (by repeat (first | (with_reducible first | exact HB.out | apply below_alloc | apply pw_below_drewN | apply below_drew1 | refine below_set ?_ GE134.out | refine below_set ?_ GE135.out | refine below_set ?_ GE136.out | refine below_set ?_ GE138.out) | exact HB.out)))⟩; clear hw; clear HO_135000; clear HO_137000; clear HL137_0; clear HL137_1; clear BK134; clear BK135; clear BK136; clear BK138; clear HB; have HO_135000 := n0_; have HO_137000 := n1_; have HL137_0 := n2_; have HL137_1 := n3_; have BK134 := n4_; have BK135 := n5_; have BK136 := n6_; have BK138 := n7_; have HB := n8_; clear n0_ n1_ n2_ n3_ n4_ n5_ n6_ n7_ n8_; have hcz55_0 : w54.cell? ⟨gb138, 0, none⟩ = some (.slice A137_0 ((rd_T60 l0_0 x4_1).f0).length c137_0) := (blk_cell BK138.out 0).trans rfl; have hcz55_1 : w54.cell? ⟨gb138, 1, none⟩ = some (.slice A137_1 ((rd_T60 l0_0 x4_1).f1).length c137_1) := (blk_cell BK138.out 1).trans rfl; have hfz55_0 := blk_frozen BK138.out 0; have hfz55_1 := blk_frozen BK138.out 1; have q56 : (8 : Int) ≤ ((((rd_T60 l0_0 x4_1).f0).length : Int) : Int) := of_decide_eq_true (by first | (with_reducible assumption) | assumption); obtain ⟨i056, hi056, _, hsz56, _⟩ := info_parts info9; have hroom56 : ((rd_T60 l0_0 x4_1).f0).length ≤ c137_0 := HC137_0.out; have hC56 : Kd.F Kd.string _ _ A137_0 ((rd_T60 l0_0 x4_1).f0).length ((rd_T60 l0_0 x4_1).f0) := (Kd.V_at (base := w.heap.size) HL137_0.out).2.2; have hcut56 := cut_to (P := Try.prog) 58 9 .i64 Try.underlying58 hi056 A137_0 ((rd_T60 l0_0 x4_1).f0).length c137_0 8 (by omega) q56 hroom56; have hr56 := Kd.F_take (m := 8) hC56 (by omega); have hy56 : y139.length = (8 : Int).toNat := (by rw [Ny139.out, List.length_take]; omega); rw [← Ny139.out] at hr56; rw [← hy56] at hcut56; have HO143 := Aside0.mk (show Kd.V Kd.string 9 _ w.heap.size _ (.slice A137_0 y139.length c137_0) y139 from Kd.V_mk (by omega) hr56); have HC143 := Aside0.mk (show y139.length ≤ c137_0 from by omega); clear hr56 hC56 hroom56 hi056 hsz56; have KY56 := Aside0.mk hy56; clear hy56; replace q56 := eq_true q56) | ((with_reducible refine gate_store (t := 58) (p := 30) rfl ?_); refine store_event (t := 58) (p := 30) (v := ?vo_w57) (w1 := (w54.setCell ⟨gb138, 0, none⟩ (.slice A137_0 y139.length c137_0))) ?hg ?ho ?hn ?hr ?_; (case ho => rfl); (case hg => rfl); (case hn => rfl); (case hr => first | (go_simp; done) | (go_simp; rfl)); intro w57 hw; have n0_ : Aside0 (Kd.V k60 60 w57 w.heap.size (fun k_ => (P0_0_ k_ ∨ w.heap.size ≤ k_) ∧ some k_ ≠ (u137000 : Value).ownBlock ∧ k_ ≠ gb134 ∧ k_ ≠ gb135 ∧ k_ ≠ gb136 ∧ k_ ≠ gb138) (.slice (some ad137) l0_0.length c0_0) l0_0) := ⟨(by rw [hw]; exact (by (with_reducible repeat (first | apply Kd.V_alloc | apply Kd.V_drewN | apply Kd.V_drew)); exact Kd.V_mono (Kd.V_far (p := ⟨gb138, 0, none⟩) (Kd.V_mono HO_135000.out (fun k_ hk => (⟨hk, hk.2.2.2.2.2⟩ : _ ∧ k_ ≠ gb138))) (fun _ hk => hk.2) (.slice A137_0 y139.length c137_0)) (fun _ hk => ⟨hk.1.1, ⟨hk.1.2.1, ⟨hk.1.2.2.1, ⟨hk.1.2.2.2.1, ⟨hk.1.2.2.2.2.1, hk.1.2.2.2.2.2⟩⟩⟩⟩⟩)))⟩; have n1_ : Aside0 (Kd.N k60 60 w57 w.heap.size (fun k_ => (P0_0_ k_ ∨ w.heap.size ≤ k_) ∧ k_ ≠ gb134 ∧ k_ ≠ gb135 ∧ k_ ≠ gb136 ∧ k_ ≠ gb138) u137000 x137000_1) := ⟨(by rw [hw]; exact (by (with_reducible repeat (first | apply Kd.N_alloc | apply Kd.N_drewN | apply Kd.N_drew)); exact Kd.N_mono (Kd.N_far (p := ⟨gb138, 0, none⟩) (Kd.N_mono HO_137000.out (fun k_ hk => (⟨hk, hk.2.2.2.2⟩ : _ ∧ k_ ≠ gb138))) (fun _ hk => hk.2) (.slice A137_0 y139.length c137_0)) (fun _ hk => ⟨hk.1.1, ⟨hk.1.2.1, ⟨hk.1.2.2.1, ⟨hk.1.2.2.2.1, hk.1.2.2.2.2⟩⟩⟩⟩)))⟩; have n2_ : Aside0 (Kd.V Kd.string 9 w57 w.heap.size (fun k_ => (P0_0_ k_ ∨ w.heap.size ≤ k_) ∧ some k_ ≠ (u137000 : Value).ownBlock ∧ k_ ≠ gb134 ∧ k_ ≠ gb135 ∧ k_ ≠ gb136 ∧ k_ ≠ gb138) (.slice A137_0 ((rd_T60 l0_0 x4_1).f0).length c137_0) ((rd_T60 l0_0 x4_1).f0)) := ⟨(by rw [hw]; exact (by (with_reducible repeat (first | apply Kd.V_alloc | apply Kd.V_drewN | apply Kd.V_drew)); exact Kd.V_mono (Kd.V_far (p := ⟨gb138, 0, none⟩) (Kd.V_mono HL137_0.out (fun k_ hk => (⟨hk, hk.2.2.2.2.2⟩ : _ ∧ k_ ≠ gb138))) (fun _ hk => hk.2) (.slice A137_0 y139.length c137_0)) (fun _ hk => ⟨hk.1.1, ⟨hk.1.2.1, ⟨hk.1.2.2.1, ⟨hk.1.2.2.2.1, ⟨hk.1.2.2.2.2.1, hk.1.2.2.2.2.2⟩⟩⟩⟩⟩)))⟩; have n3_ : Aside0 (Kd.V Kd.string 9 w57 w.heap.size (fun k_ => (P0_0_ k_ ∨ w.heap.size ≤ k_) ∧ some k_ ≠ (u137000 : Value).ownBlock ∧ k_ ≠ gb134 ∧ k_ ≠ gb135 ∧ k_ ≠ gb136 ∧ k_ ≠ gb138) (.slice A137_1 ((rd_T60 l0_0 x4_1).f1).length c137_1) ((rd_T60 l0_0 x4_1).f1)) := ⟨(by rw [hw]; exact (by (with_reducible repeat (first | apply Kd.V_alloc | apply Kd.V_drewN | apply Kd.V_drew)); exact Kd.V_mono (Kd.V_far (p := ⟨gb138, 0, none⟩) (Kd.V_mono HL137_1.out (fun k_ hk => (⟨hk, hk.2.2.2.2.2⟩ : _ ∧ k_ ≠ gb138))) (fun _ hk => hk.2) (.slice A137_0 y139.length c137_0)) (fun _ hk => ⟨hk.1.1, ⟨hk.1.2.1, ⟨hk.1.2.2.1, ⟨hk.1.2.2.2.1, ⟨hk.1.2.2.2.2.1, hk.1.2.2.2.2.2⟩⟩⟩⟩⟩)))⟩; have n4_ : Aside0 (Kd.V Kd.string 9 w57 w.heap.size (fun k_ => (P0_0_ k_ ∨ w.heap.size ≤ k_) ∧ some k_ ≠ (u137000 : Value).ownBlock ∧ k_ ≠ gb134 ∧ k_ ≠ gb135 ∧ k_ ≠ gb136 ∧ k_ ≠ gb138) (.slice A137_0 y139.length c137_0) y139) := ⟨(by rw [hw]; exact (by (with_reducible repeat (first | apply Kd.V_alloc | apply Kd.V_drewN | apply Kd.V_drew)); exact Kd.V_mono (Kd.V_far (p := ⟨gb138, 0, none⟩) (Kd.V_mono HO143.out (fun k_ hk => (⟨hk, hk.2.2.2.2.2⟩ : _ ∧ k_ ≠ gb138))) (fun _ hk => hk.2) (.slice A137_0 y139.length c137_0)) (fun _ hk => ⟨hk.1.1, ⟨hk.1.2.1, ⟨hk.1.2.2.1, ⟨hk.1.2.2.2.1, ⟨hk.1.2.2.2.2.1, hk.1.2.2.2.2.2⟩⟩⟩⟩⟩)))⟩; have n5_ : Aside0 (w57.heap[gb134]? = some (.cells #[.slice (some ad137) l0_0.length c0_0] 25 (0, 0))) := ⟨(by rw [hw]; exact (by (with_reducible repeat (first | refine blk_drewN ?_ _ | refine blk_drew ?_ | refine blk_alloc ?_ _)); refine blk_far ?_ NB134_138.out _; (with_reducible repeat (first | refine blk_drewN ?_ _ | refine blk_drew ?_ | refine blk_alloc ?_ _)); exact BK134.out))⟩; have n6_ : Aside0 (w57.heap[gb135]? = some (.cells #[.slice none 0 0] 25 (0, 0))) := ⟨(by rw [hw]; exact (by (with_reducible repeat (first | refine blk_drewN ?_ _ | refine blk_drew ?_ | refine blk_alloc ?_ _)); refine blk_far ?_ NB135_138.out _; (with_reducible repeat (first | refine blk_drewN ?_ _ | refine blk_drew ?_ | refine blk_alloc ?_ _)); exact BK135.out))⟩; have n7_ : Aside0 (w57.heap[gb136]? = some (.cells #[u137000] 25 (0, 0))) := ⟨(by rw [hw]; exact (by (with_reducible repeat (first | refine blk_drewN ?_ _ | refine blk_drew ?_ | refine blk_alloc ?_ _)); refine blk_far ?_ NB136_138.out _; (with_reducible repeat (first | refine blk_drewN ?_ _ | refine blk_drew ?_ | refine blk_alloc ?_ _)); exact BK136.out))⟩; have n8_ : Aside0 (w57.heap[gb138]? = some (.cells #[.slice A137_0 y139.length c137_0, .slice A137_1 ((rd_T60 l0_0 x4_1).f1).length c137_1] 60 (0, 0))) := ⟨(by rw [hw]; exact (by (with_reducible repeat (first | refine blk_drewN ?_ _ | refine blk_drew ?_ | refine blk_alloc ?_ _)); refine blk_put (cs := #[.slice A137_0 ((rd_T60 l0_0 x4_1).f0).length c137_0, .slice A137_1 ((rd_T60 l0_0 x4_1).f1).length c137_1]) ?_ 0 _ rfl; (with_reducible repeat (first | refine blk_drewN ?_ _ | refine blk_drew ?_ | refine blk_alloc ?_ _)); exact BK138.out))⟩; have n9_ : Aside0 (Below w.heap.size w w57) := ⟨(by rw [hw]; exact (by repeat (first | (with_reducible first | exact HB.out | apply below_alloc | apply pw_below_drewN | apply below_drew1 | refine below_set ?_ GE134.out | refine below_set ?_ GE135.out | refine below_set ?_ GE136.out | refine below_set ?_ GE138.out) | exact HB.out)))⟩; clear hw; clear HO_135000; clear HO_137000; clear HL137_0; clear HL137_1; clear HO143; clear BK134; clear BK135; clear BK136; clear BK138; clear HB; have HO_135000 := n0_; have HO_137000 := n1_; have HL137_0 := n2_; have HL137_1 := n3_; have HO143 := n4_; have BK134 := n5_; have BK135 := n6_; have BK136 := n7_; have BK138 := n8_; have HB := n9_; clear n0_ n1_ n2_ n3_ n4_ n5_ n6_ n7_ n8_ n9_; have hcz58_0 : w57.cell? ⟨gb138, 0, none⟩ = some (.slice A137_0 y139.length c137_0) := (blk_cell BK138.out 0).trans rfl; have hcz58_1 : w57.cell? ⟨gb138, 1, none⟩ = some (.slice A137_1 ((rd_T60 l0_0 x4_1).f1).length c137_1) := (blk_cell BK138.out 1).trans rfl; have hfz58_0 := blk_frozen BK138.out 0; have hfz58_1 := blk_frozen BK138.out 1; have hnb59 := NB136_135.out; have hnc59 := NB135_136.out; have hcz60_0 : w57.cell? ⟨gb136, 0, none⟩ = some (u137000) := (blk_cell BK136.out 0).trans rfl; have hfz60_0 := blk_frozen BK136.out 0) | ((with_reducible refine gate_builtin (b := .append) (xs := #[.tmp 40, .tmp 42]) rfl ?_); at_builtin; refine Kd.N_append k60 (w0 := w) w.heap.size rfl (.tmp 40) (.tmp 42) 23 60 (.agg #[(.slice none 0 0), (.slice none 0 0)]) 48 rfl Try.underlying23 info60 rfl (by decide) (by omega) u137000 x137000_1 (⟨y139, (rd_T60 l0_0 x4_1).f1⟩ : S60) [.slice A137_0 y139.length c137_0, .slice A137_1 ((rd_T60 l0_0 x4_1).f1).length c137_1] (fun k_ => (P0_0_ k_ ∨ w.heap.size ≤ k_) ∧ k_ ≠ gb134 ∧ k_ ≠ gb135 ∧ k_ ≠ gb136 ∧ k_ ≠ gb138) (fun k_ => ((fun k_ => (P0_0_ k_ ∨ w.heap.size ≤ k_) ∧ k_ ≠ gb134 ∧ k_ ≠ gb135 ∧ k_ ≠ gb136 ∧ k_ ≠ gb138)) k_ ∧ some k_ ≠ (u137000 : Value).ownBlock) rfl rfl ?aP (fun _ hk => hk) ?aF ?aO ?aB ?aS ?aL ?_; (case aP => exact (k60_mkF _ _ (⟨y139, (rd_T60 l0_0 x4_1).f1⟩ : S60) (Kd.V_reads' (Kd.V_mono (ok' := (fun k_ => ((fun k_ => (P0_0_ k_ ∨ w.heap.size ≤ k_) ∧ k_ ≠ gb134 ∧ k_ ≠ gb135 ∧ k_ ≠ gb136 ∧ k_ ≠ gb138)) k_ ∧ some k_ ≠ (u137000 : Value).ownBlock)) (HO143.out) (fun k_ hk => ⟨⟨hk.1, ⟨hk.2.2.1, ⟨hk.2.2.2.1, ⟨hk.2.2.2.2.1, hk.2.2.2.2.2⟩⟩⟩⟩, hk.2.1⟩))).2.1 (Kd.V_F (Kd.V_mono (ok' := (fun k_ => ((fun k_ => (P0_0_ k_ ∨ w.heap.size ≤ k_) ∧ k_ ≠ gb134 ∧ k_ ≠ gb135 ∧ k_ ≠ gb136 ∧ k_ ≠ gb138)) k_ ∧ some k_ ≠ (u137000 : Value).ownBlock)) (HO143.out) (fun k_ hk => ⟨⟨hk.1, ⟨hk.2.2.1, ⟨hk.2.2.2.1, ⟨hk.2.2.2.2.1, hk.2.2.2.2.2⟩⟩⟩⟩, hk.2.1⟩))) (Kd.V_reads' (Kd.V_mono (ok' := (fun k_ => ((fun k_ => (P0_0_ k_ ∨ w.heap.size ≤ k_) ∧ k_ ≠ gb134 ∧ k_ ≠ gb135 ∧ k_ ≠ gb136 ∧ k_ ≠ gb138)) k_ ∧ some k_ ≠ (u137000 : Value).ownBlock)) (HL137_1.out) (fun k_ hk => ⟨⟨hk.1, ⟨hk.2.2.1, ⟨hk.2.2.2.1, ⟨hk.2.2.2.2.1, hk.2.2.2.2.2⟩⟩⟩⟩, hk.2.1⟩))).2.1 (Kd.V_F (Kd.V_mono (ok' := (fun k_ => ((fun k_ => (P0_0_ k_ ∨ w.heap.size ≤ k_) ∧ k_ ≠ gb134 ∧ k_ ≠ gb135 ∧ k_ ≠ gb136 ∧ k_ ≠ gb138)) k_ ∧ some k_ ≠ (u137000 : Value).ownBlock)) (HL137_1.out) (fun k_ hk => ⟨⟨hk.1, ⟨hk.2.2.1, ⟨hk.2.2.2.1, ⟨hk.2.2.2.2.1, hk.2.2.2.2.2⟩⟩⟩⟩, hk.2.1⟩))))); (case aB => exact (by repeat (first | (with_reducible first | exact HB.out | apply below_alloc | apply pw_below_drewN | apply below_drew1 | refine below_set ?_ GE134.out | refine below_set ?_ GE135.out | refine below_set ?_ GE136.out | refine below_set ?_ GE138.out) | exact HB.out))); (case aF => exact (fun k_ hk => ⟨(.inr (Nat.le_trans (below_size (by repeat (first | (with_reducible first | exact HB.out | apply below_alloc | apply pw_below_drewN | apply below_drew1 | refine below_set ?_ GE134.out | refine below_set ?_ GE135.out | refine below_set ?_ GE136.out | refine below_set ?_ GE138.out) | exact HB.out))) hk)), Kd.freshB (g := gb134) (o := .cells #[.slice (some ad137) l0_0.length c0_0] 25 (0, 0)) (by (with_reducible repeat (first | refine blk_drewN ?_ _ | refine blk_drew ?_ | refine blk_alloc ?_ _)); exact BK134.out) k_ hk, Kd.freshB (g := gb135) (o := .cells #[.slice none 0 0] 25 (0, 0)) (by (with_reducible repeat (first | refine blk_drewN ?_ _ | refine blk_drew ?_ | refine blk_alloc ?_ _)); exact BK135.out) k_ hk, Kd.freshB (g := gb136) (o := .cells #[u137000] 25 (0, 0)) (by (with_reducible repeat (first | refine blk_drewN ?_ _ | refine blk_drew ?_ | refine blk_alloc ?_ _)); exact BK136.out) k_ hk, Kd.freshB (g := gb138) (o := .cells #[.slice A137_0 y139.length c137_0, .slice A137_1 ((rd_T60 l0_0 x4_1).f1).length c137_1] 60 (0, 0)) (by (with_reducible repeat (first | refine blk_drewN ?_ _ | refine blk_drew ?_ | refine blk_alloc ?_ _)); exact BK138.out) k_ hk⟩)); (case aO => exact (by (with_reducible repeat (first | apply Kd.N_alloc | apply Kd.N_drewN | apply Kd.N_drew)); exact HO_137000.out)); (case aS => exact (below_size (by repeat (first | (with_reducible first | exact HB.out | apply below_alloc | apply pw_below_drewN | apply below_drew1 | refine below_set ?_ GE134.out | refine below_set ?_ GE135.out | refine below_set ?_ GE136.out | refine below_set ?_ GE138.out) | exact HB.out)))); (case aL => have := LMc45.out; omega); intro v153 w61 ho hb hg hat; rw [← Ny152.out] at ho; have n0_ := Aside0.mk (Kd.V_afterv (ok := (fun k_ => (P0_0_ k_ ∨ w.heap.size ≤ k_) ∧ k_ ≠ gb134 ∧ k_ ≠ gb135 ∧ k_ ≠ gb136 ∧ k_ ≠ gb138)) (by (with_reducible repeat (first | apply Kd.V_alloc | apply Kd.V_drewN | apply Kd.V_drew)); exact Kd.V_mono HO_135000.out (fun _ hk => ⟨⟨hk.1, ⟨hk.2.2.1, ⟨hk.2.2.2.1, ⟨hk.2.2.2.2.1, hk.2.2.2.2.2⟩⟩⟩⟩, hk.2.1⟩)) hg hat); have n1_ := Aside0.mk (blk_grown (g := gb134) (o := .cells #[.slice (some ad137) l0_0.length c0_0] 25 (0, 0)) (by (with_reducible repeat (first | refine blk_drewN ?_ _ | refine blk_drew ?_ | refine blk_alloc ?_ _)); exact BK134.out) hg (Kd.N_ne HO_137000.out BK134.out (by decide))); have n2_ := Aside0.mk (blk_grown (g := gb135) (o := .cells #[.slice none 0 0] 25 (0, 0)) (by (with_reducible repeat (first | refine blk_drewN ?_ _ | refine blk_drew ?_ | refine blk_alloc ?_ _)); exact BK135.out) hg (Kd.N_ne HO_137000.out BK135.out (by decide))); have n3_ := Aside0.mk (blk_grown (g := gb136) (o := .cells #[u137000] 25 (0, 0)) (by (with_reducible repeat (first | refine blk_drewN ?_ _ | refine blk_drew ?_ | refine blk_alloc ?_ _)); exact BK136.out) hg (Kd.N_ne HO_137000.out BK136.out (by decide))); have n4_ := Aside0.mk (Kd.V_afterv (ok := (fun k_ => (P0_0_ k_ ∨ w.heap.size ≤ k_) ∧ k_ ≠ gb134 ∧ k_ ≠ gb135 ∧ k_ ≠ gb136 ∧ k_ ≠ gb138)) (by (with_reducible repeat (first | apply Kd.V_alloc | apply Kd.V_drewN | apply Kd.V_drew)); exact Kd.V_mono HL137_0.out (fun _ hk => ⟨⟨hk.1, ⟨hk.2.2.1, ⟨hk.2.2.2.1, ⟨hk.2.2.2.2.1, hk.2.2.2.2.2⟩⟩⟩⟩, hk.2.1⟩)) hg hat); have n5_ := Aside0.mk (Kd.V_afterv (ok := (fun k_ => (P0_0_ k_ ∨ w.heap.size ≤ k_) ∧ k_ ≠ gb134 ∧ k_ ≠ gb135 ∧ k_ ≠ gb136 ∧ k_ ≠ gb138)) (by (with_reducible repeat (first | apply Kd.V_alloc | apply Kd.V_drewN | apply Kd.V_drew)); exact Kd.V_mono HL137_1.out (fun _ hk => ⟨⟨hk.1, ⟨hk.2.2.1, ⟨hk.2.2.2.1, ⟨hk.2.2.2.2.1, hk.2.2.2.2.2⟩⟩⟩⟩, hk.2.1⟩)) hg hat); have n6_ := Aside0.mk (blk_grown (g := gb138) (o := .cells #[.slice A137_0 y139.length c137_0, .slice A137_1 ((rd_T60 l0_0 x4_1).f1).length c137_1] 60 (0, 0)) (by (with_reducible repeat (first | refine blk_drewN ?_ _ | refine blk_drew ?_ | refine blk_alloc ?_ _)); exact BK138.out) hg (Kd.N_away HO_137000.out (fun _ hk => hk.2.2.2.2))); have n7_ := Aside0.mk (Kd.V_afterv (ok := (fun k_ => (P0_0_ k_ ∨ w.heap.size ≤ k_) ∧ k_ ≠ gb134 ∧ k_ ≠ gb135 ∧ k_ ≠ gb136 ∧ k_ ≠ gb138)) (by (with_reducible repeat (first | apply Kd.V_alloc | apply Kd.V_drewN | apply Kd.V_drew)); exact Kd.V_mono HO143.out (fun _ hk => ⟨⟨hk.1, ⟨hk.2.2.1, ⟨hk.2.2.2.1, ⟨hk.2.2.2.2.1, hk.2.2.2.2.2⟩⟩⟩⟩, hk.2.1⟩)) hg hat); have n8_ := Aside0.mk (hb); have n9_ := Aside0.mk (ho); clear HO_135000; clear BK134; clear BK135; clear BK136; clear HL137_0; clear HL137_1; clear BK138; clear HO143; clear HB; clear HO_137000; have HO_135000 := n0_; have BK134 := n1_; have BK135 := n2_; have BK136 := n3_; have HL137_0 := n4_; have HL137_1 := n5_; have BK138 := n6_; have HO143 := n7_; have HB := n8_; have HO154 := n9_; clear n0_ n1_ n2_ n3_ n4_ n5_ n6_ n7_ n8_ n9_; clear ho hb hg hat; obtain ⟨Ao62, co62, eo62⟩ := Kd.N_slice HO154.out; subst eo62; have hcz63_0 : w61.cell? ⟨gb136, 0, none⟩ = some (u137000) := (blk_cell BK136.out 0).trans rfl; have hfz63_0 := blk_frozen BK136.out 0))
                        go_roundg kj7
                        case measure => have := HK1.out; have := HJ7.out; omega
                        case rel => exact ⟨(wrap64 (x4_1 + 1)), (y152), (.slice Ao62 y152.length co62), (by first | rfl | (simp; done) | (simp [*]; done)), H', ⟨by have := HK1.out; have := HJ7.out; omega⟩, ⟨by (with_reducible repeat (first | apply Kd.V_alloc | apply Kd.V_drewN | apply Kd.V_drew)); exact Kd.V_mono (Kd.V_far (p := ⟨gb136, 0, none⟩) (Kd.V_mono HO_135000.out (fun k_ hk => (⟨hk, hk.1.2.2.2.1⟩ : _ ∧ k_ ≠ gb136))) (fun _ hk => hk.2) (.slice Ao62 y152.length co62)) (fun _ hk => ⟨hk.1.1.1, ⟨hk.1.2, ⟨hk.1.1.2.1, ⟨hk.1.1.2.2.1, hk.1.1.2.2.2.1⟩⟩⟩⟩)⟩, ⟨by (with_reducible repeat (first | apply Kd.N_alloc | apply Kd.N_drewN | apply Kd.N_drew)); exact Kd.N_mono (Kd.N_far (p := ⟨gb136, 0, none⟩) (Kd.N_mono HO154.out (fun k_ hk => (⟨hk, hk.2.2.2.1⟩ : _ ∧ k_ ≠ gb136))) (fun _ hk => hk.2) (.slice Ao62 y152.length co62)) (fun _ hk => ⟨hk.1.1, ⟨hk.1.2.1, ⟨hk.1.2.2.1, hk.1.2.2.2.1⟩⟩⟩)⟩, ⟨by (with_reducible repeat (first | refine blk_drewN ?_ _ | refine blk_drew ?_ | refine blk_alloc ?_ _)); refine blk_far ?_ NB134_136.out _; (with_reducible repeat (first | refine blk_drewN ?_ _ | refine blk_drew ?_ | refine blk_alloc ?_ _)); exact BK134.out⟩, ⟨by (with_reducible repeat (first | refine blk_drewN ?_ _ | refine blk_drew ?_ | refine blk_alloc ?_ _)); refine blk_far ?_ NB135_136.out _; (with_reducible repeat (first | refine blk_drewN ?_ _ | refine blk_drew ?_ | refine blk_alloc ?_ _)); exact BK135.out⟩, ⟨by (with_reducible repeat (first | refine blk_drewN ?_ _ | refine blk_drew ?_ | refine blk_alloc ?_ _)); refine blk_put (cs := #[u137000]) ?_ 0 _ rfl; (with_reducible repeat (first | refine blk_drewN ?_ _ | refine blk_drew ?_ | refine blk_alloc ?_ _)); exact BK136.out⟩, ⟨by repeat (first | (with_reducible first | exact HB.out | apply below_alloc | apply pw_below_drewN | apply below_drew1 | refine below_set ?_ GE134.out | refine below_set ?_ GE135.out | refine below_set ?_ GE136.out | refine below_set ?_ GE138.out) | exact HB.out)⟩⟩
                      · rw [if_neg c45] at H
                        exact absurd H (by simp)
                  · rw [if_neg c20] at H
                    exact absurd H (by simp)
                · rw [if_neg c19] at H
                  have c19b0 : decide (8 < (((rd_T60 l0_0 x4_1).f0).length : Int)) = false := decide_eq_false c19
                  have c19b1 : decide (8 < ((rd_T60 l0_0 x4_1).f0).length) = false := decide_eq_false (by omega)
                  clear c19
                  by_cases c64 : (((rd_T60 l0_0 x4_1).f1).length : Int) > 8
                  · rw [if_pos c64] at H
                    have c64b0 : decide (8 < (((rd_T60 l0_0 x4_1).f1).length : Int)) = true := decide_eq_true c64
                    have c64b1 : decide (8 < ((rd_T60 l0_0 x4_1).f1).length) = true := decide_eq_true (by omega)
                    clear c64
                    by_cases c65 : 8 ≤ (((rd_T60 l0_0 x4_1).f1).length : Int)
                    · rw [if_pos c65] at H
                      have c65b0 := eq_true c65
                      have c65b1 : decide (8 ≤ (((rd_T60 l0_0 x4_1).f1).length : Int)) = true := decide_eq_true c65
                      clear c65
                      obtain ⟨y155, hy155⟩ : ∃ y_ : List ByteArray, y_ = (((rd_T60 l0_0 x4_1).f1).take 8) := ⟨_, rfl⟩
                      replace H : (if x137000_1.length < 2932031007402 then (registrarlaw07_few.l0 kj7 (wrap64 (x4_1 + 1)) l0_0 (x137000_1 ++ [(⟨(rd_T60 l0_0 x4_1).f0, y155⟩ : S60)])) else (none)) = some r := by first | (rw [hy155]; with_reducible exact H) | (have H2_ := (Option.bind_some _ _).symm.trans H; rw [hy155]; with_reducible exact H2_) | (have H2_ := (Option.bind_some _ _).symm.trans H; with_reducible exact H2_) | with_reducible exact H | (rw [hy155]; exact H) | exact H
                      have Ny155 := Aside0.mk hy155
                      clear hy155
                      by_cases c66 : x137000_1.length < 2932031007402
                      · rw [if_pos c66] at H
                        have LMc66 := Aside0.mk c66
                        clear c66
                        obtain ⟨y160, hy160⟩ : ∃ y_ : List (S60), y_ = (x137000_1 ++ [(⟨(rd_T60 l0_0 x4_1).f0, y155⟩ : S60)]) := ⟨_, rfl⟩
                        replace H : (registrarlaw07_few.l0 kj7 (wrap64 (x4_1 + 1)) l0_0 y160) = some r := by first | (rw [hy160]; with_reducible exact H) | (have H2_ := (Option.bind_some _ _).symm.trans H; rw [hy160]; with_reducible exact H2_) | (have H2_ := (Option.bind_some _ _).symm.trans H; with_reducible exact H2_) | with_reducible exact H | (rw [hy160]; exact H) | exact H
                        have Ny160 := Aside0.mk hy160
                        clear hy160
                        have H' := Aside0.mk H
                        clear H
                        have hnb67 := NB134_135.out
                        have hnc67 := NB135_134.out
                        have hnb68 := NB134_136.out
                        have hnc68 := NB136_134.out
                        have hcz69_0 : wc.cell? ⟨gb134, 0, none⟩ = some (.slice A0_0 l0_0.length c0_0) := (blk_cell BK134.out 0).trans rfl
                        have hfz69_0 := blk_frozen BK134.out 0
                        have p137 : 0 ≤ (x4_1 : Int) := of_decide_eq_true (by first | (with_reducible assumption) | assumption)
                        have q137 : x4_1 < (l0_0.length : Int) := of_decide_eq_true (by first | (with_reducible assumption) | assumption)
                        obtain ⟨ad137, A137_0, c137_0, A137_1, c137_1, e137, hx137_0, hx137_1, hl137_0, hi137_0, hl137_1, hi137_1⟩ := at_T60 (Kd.V_reads' HO_135000.out).2.2 x4_1 p137 q137
                        cases e137
                        obtain ⟨ce137, hce137, hMe137, hcc137⟩ := Kd.V_get HO_135000.out z60 x4_1 p137 (by first | exact q137 | exact of_decide_eq_true (by first | (with_reducible assumption) | assumption) | (have e_ := (Kd.V_reads' HO_135000.out).1; omega))
                        obtain ⟨ua137_0, uc137_0, ua137_1, uc137_1, rfl, ul137_0, ge137_0, ul137_1, ge137_1⟩ := k60_openF hMe137
                        have hv137_0 := hcc137 0 _ rfl
                        rw [Nat.add_zero] at hv137_0
                        replace hv137_0 := Option.some.inj (hv137_0.symm.trans hx137_0)
                        injection hv137_0 with hva_ hvn_ hvc_
                        rw [hva_] at ge137_0
                        rw [hvc_] at ul137_0
                        have HL137_0 := Aside0.mk (show Kd.V Kd.string 9 _ w.heap.size _ _ ((rd_T60 l0_0 x4_1).f0) from Kd.V_mk ul137_0 ge137_0)
                        clear hva_ hvn_ hvc_ ge137_0 ul137_0
                        have hv137_1 := hcc137 1 _ rfl
                        rw [add_field _ _ 1 (by omega)] at hv137_1
                        replace hv137_1 := Option.some.inj (hv137_1.symm.trans hx137_1)
                        injection hv137_1 with hva_ hvn_ hvc_
                        rw [hva_] at ge137_1
                        rw [hvc_] at ul137_1
                        have HL137_1 := Aside0.mk (show Kd.V Kd.string 9 _ w.heap.size _ _ ((rd_T60 l0_0 x4_1).f1) from Kd.V_mk ul137_1 ge137_1)
                        clear hva_ hvn_ hvc_ ge137_1 ul137_1
                        clear hcc137 hce137
                        have HR137_0 := Aside0.mk hi137_0
                        have HC137_0 := Aside0.mk hl137_0
                        clear hi137_0 hl137_0
                        have HR137_1 := Aside0.mk hi137_1
                        have HC137_1 := Aside0.mk hl137_1
                        clear hi137_1 hl137_1
                        replace p137 := eq_true p137
                        replace q137 := eq_true q137
                        go_wp2_with (first | ((with_reducible refine gate_dst (N := 5) rfl ?_); refine box_event ?hg (N := 5) ?hd (cs := #[.slice none 0 0, .slice none 0 0]) (t := 60) ?hr ?_; (case hd => rfl); (case hg => rfl); (case hr => first | (go_simp; done) | (go_simp; rfl)); intro gb138 hg w70 hbox hb; have n0_ := Aside0.mk (Kd.V_below (Kd.V_elderB (by (with_reducible repeat (first | apply Kd.V_alloc | apply Kd.V_drewN | apply Kd.V_drew)); exact HO_135000.out) gb138 (Nat.le_of_eq hg.symm)) hb); have n1_ := Aside0.mk (Kd.N_below (Kd.N_elderB (by (with_reducible repeat (first | apply Kd.N_alloc | apply Kd.N_drewN | apply Kd.N_drew)); exact HO_137000.out) gb138 (Nat.le_of_eq hg.symm)) hb); have n2_ := Aside0.mk (Kd.V_below (Kd.V_elderB (by (with_reducible repeat (first | apply Kd.V_alloc | apply Kd.V_drewN | apply Kd.V_drew)); exact HL137_0.out) gb138 (Nat.le_of_eq hg.symm)) hb); have n3_ := Aside0.mk (Kd.V_below (Kd.V_elderB (by (with_reducible repeat (first | apply Kd.V_alloc | apply Kd.V_drewN | apply Kd.V_drew)); exact HL137_1.out) gb138 (Nat.le_of_eq hg.symm)) hb); have n4_ := Aside0.mk (blk_below (g := gb134) (o := .cells #[.slice (some ad137) l0_0.length c0_0] 25 (0, 0)) (by (with_reducible repeat (first | refine blk_drewN ?_ _ | refine blk_drew ?_ | refine blk_alloc ?_ _)); exact BK134.out) hb); have n5_ := Aside0.mk (blk_below (g := gb135) (o := .cells #[.slice none 0 0] 25 (0, 0)) (by (with_reducible repeat (first | refine blk_drewN ?_ _ | refine blk_drew ?_ | refine blk_alloc ?_ _)); exact BK135.out) hb); have n6_ := Aside0.mk (blk_below (g := gb136) (o := .cells #[u137000] 25 (0, 0)) (by (with_reducible repeat (first | refine blk_drewN ?_ _ | refine blk_drew ?_ | refine blk_alloc ?_ _)); exact BK136.out) hb); have n7_ := Aside0.mk (Kd.C_below (by repeat (first | (with_reducible exact HR137_0.out) | (with_reducible refine Kd.C_alloc ?_ _) | (with_reducible refine Kd.C_drewN ?_ _) | (with_reducible refine Kd.C_drew ?_) | exact HR137_0.out | exact (Kd.V_reads' HL137_0.out).2.2)) hb); have n8_ := Aside0.mk (Kd.C_below (by repeat (first | (with_reducible exact HR137_1.out) | (with_reducible refine Kd.C_alloc ?_ _) | (with_reducible refine Kd.C_drewN ?_ _) | (with_reducible refine Kd.C_drew ?_) | exact HR137_1.out | exact (Kd.V_reads' HL137_1.out).2.2)) hb); have n9_ := Aside0.mk (below_step (by repeat (first | (with_reducible first | exact HB.out | apply below_alloc | apply pw_below_drewN | apply below_drew1 | refine below_set ?_ GE134.out | refine below_set ?_ GE135.out | refine below_set ?_ GE136.out) | exact HB.out)) hb); have n10_ := Aside0.mk (hbox); have n11_ := Aside0.mk ((by rw [hg]; exact (below_size (by repeat (first | (with_reducible first | exact HB.out | apply below_alloc | apply pw_below_drewN | apply below_drew1 | refine below_set ?_ GE134.out | refine below_set ?_ GE135.out | refine below_set ?_ GE136.out) | exact HB.out))) : w.heap.size ≤ gb138)); have n12_ := Aside0.mk ((by rw [hg]; exact (below_size (by repeat (first | (with_reducible first | exact HB.out | apply below_alloc | apply pw_below_drewN | apply below_drew1 | refine below_set ?_ GE134.out | refine below_set ?_ GE135.out | refine below_set ?_ GE136.out) | exact HB.out))) : w.heap.size ≤ gb138)); have n13_ := Aside0.mk ((by rw [hg]; exact Nat.ne_of_lt (blk_lt (g := gb134) (o := .cells #[.slice (some ad137) l0_0.length c0_0] 25 (0, 0)) (by (with_reducible repeat (first | refine blk_drewN ?_ _ | refine blk_drew ?_ | refine blk_alloc ?_ _)); exact BK134.out)) : gb134 ≠ gb138)); have n14_ := Aside0.mk ((by rw [hg]; exact Nat.ne_of_gt (blk_lt (g := gb134) (o := .cells #[.slice (some ad137) l0_0.length c0_0] 25 (0, 0)) (by (with_reducible repeat (first | refine blk_drewN ?_ _ | refine blk_drew ?_ | refine blk_alloc ?_ _)); exact BK134.out)) : gb138 ≠ gb134)); have n15_ := Aside0.mk ((by rw [hg]; exact Nat.ne_of_lt (blk_lt (g := gb135) (o := .cells #[.slice none 0 0] 25 (0, 0)) (by (with_reducible repeat (first | refine blk_drewN ?_ _ | refine blk_drew ?_ | refine blk_alloc ?_ _)); exact BK135.out)) : gb135 ≠ gb138)); have n16_ := Aside0.mk ((by rw [hg]; exact Nat.ne_of_gt (blk_lt (g := gb135) (o := .cells #[.slice none 0 0] 25 (0, 0)) (by (with_reducible repeat (first | refine blk_drewN ?_ _ | refine blk_drew ?_ | refine blk_alloc ?_ _)); exact BK135.out)) : gb138 ≠ gb135)); have n17_ := Aside0.mk ((by rw [hg]; exact Nat.ne_of_lt (blk_lt (g := gb136) (o := .cells #[u137000] 25 (0, 0)) (by (with_reducible repeat (first | refine blk_drewN ?_ _ | refine blk_drew ?_ | refine blk_alloc ?_ _)); exact BK136.out)) : gb136 ≠ gb138)); have n18_ := Aside0.mk ((by rw [hg]; exact Nat.ne_of_gt (blk_lt (g := gb136) (o := .cells #[u137000] 25 (0, 0)) (by (with_reducible repeat (first | refine blk_drewN ?_ _ | refine blk_drew ?_ | refine blk_alloc ?_ _)); exact BK136.out)) : gb138 ≠ gb136)); clear HO_135000; clear HO_137000; clear HL137_0; clear HL137_1; clear BK134; clear BK135; clear BK136; clear HR137_0; clear HR137_1; clear HB; have HO_135000 := n0_; have HO_137000 := n1_; have HL137_0 := n2_; have HL137_1 := n3_; have BK134 := n4_; have BK135 := n5_; have BK136 := n6_; have HR137_0 := n7_; have HR137_1 := n8_; have HB := n9_; have BK138 := n10_; have GW138 := n11_; have GE138 := n12_; have NB134_138 := n13_; have NB138_134 := n14_; have NB135_138 := n15_; have NB138_135 := n16_; have NB136_138 := n17_; have NB138_136 := n18_; clear n0_ n1_ n2_ n3_ n4_ n5_ n6_ n7_ n8_ n9_ n10_ n11_ n12_ n13_ n14_ n15_ n16_ n17_ n18_; clear hb hbox hg; have hnb71 := NB138_134.out; have hnc71 := NB134_138.out; have hnb72 := NB138_135.out; have hnc72 := NB135_138.out; have hnb73 := NB138_136.out; have hnc73 := NB136_138.out; have hcz74_0 : w70.cell? ⟨gb138, 0, none⟩ = some (.slice none 0 0) := (blk_cell BK138.out 0).trans rfl; have hcz74_1 : w70.cell? ⟨gb138, 1, none⟩ = some (.slice none 0 0) := (blk_cell BK138.out 1).trans rfl; have hfz74_0 := blk_frozen BK138.out 0; have hfz74_1 := blk_frozen BK138.out 1) | ((with_reducible refine gate_store (t := 60) (p := 5) rfl ?_); refine store_event (t := 60) (p := 5) (v := ?vo_w75) (w1 := ((w70.setCell ⟨gb138, 0, none⟩ (.slice A137_0 ((rd_T60 l0_0 x4_1).f0).length c137_0)).setCell ⟨gb138, 1, none⟩ (.slice A137_1 ((rd_T60 l0_0 x4_1).f1).length c137_1))) ?hg ?ho ?hn ?hr ?_; (case ho => rfl); (case hg => rfl); (case hn => rfl); (case hr => first | (go_simp; done) | (go_simp; rfl)); intro w75 hw; have n0_ : Aside0 (Kd.V k60 60 w75 w.heap.size (fun k_ => (P0_0_ k_ ∨ w.heap.size ≤ k_) ∧ some k_ ≠ (u137000 : Value).ownBlock ∧ k_ ≠ gb134 ∧ k_ ≠ gb135 ∧ k_ ≠ gb136 ∧ k_ ≠ gb138) (.slice (some ad137) l0_0.length c0_0) l0_0) := ⟨(by rw [hw]; exact (by (with_reducible repeat (first | apply Kd.V_alloc | apply Kd.V_drewN | apply Kd.V_drew)); exact Kd.V_mono (Kd.V_far (p := ⟨gb138, 1, none⟩) (Kd.V_far (p := ⟨gb138, 0, none⟩) (Kd.V_mono HO_135000.out (fun k_ hk => (⟨hk, hk.2⟩ : _ ∧ k_ ≠ gb138))) (fun _ hk => hk.2) (.slice A137_0 ((rd_T60 l0_0 x4_1).f0).length c137_0)) (fun _ hk => hk.2) (.slice A137_1 ((rd_T60 l0_0 x4_1).f1).length c137_1)) (fun _ hk => ⟨hk.1.1.1, ⟨hk.1.1.2.1, ⟨hk.1.1.2.2.1, ⟨hk.1.1.2.2.2.1, ⟨hk.1.1.2.2.2.2, hk.1.2⟩⟩⟩⟩⟩)))⟩; have n1_ : Aside0 (Kd.N k60 60 w75 w.heap.size (fun k_ => (P0_0_ k_ ∨ w.heap.size ≤ k_) ∧ k_ ≠ gb134 ∧ k_ ≠ gb135 ∧ k_ ≠ gb136 ∧ k_ ≠ gb138) u137000 x137000_1) := ⟨(by rw [hw]; exact (by (with_reducible repeat (first | apply Kd.N_alloc | apply Kd.N_drewN | apply Kd.N_drew)); exact Kd.N_mono (Kd.N_far (p := ⟨gb138, 1, none⟩) (Kd.N_far (p := ⟨gb138, 0, none⟩) (Kd.N_mono HO_137000.out (fun k_ hk => (⟨hk, hk.2⟩ : _ ∧ k_ ≠ gb138))) (fun _ hk => hk.2) (.slice A137_0 ((rd_T60 l0_0 x4_1).f0).length c137_0)) (fun _ hk => hk.2) (.slice A137_1 ((rd_T60 l0_0 x4_1).f1).length c137_1)) (fun _ hk => ⟨hk.1.1.1, ⟨hk.1.1.2.1, ⟨hk.1.1.2.2.1, ⟨hk.1.1.2.2.2, hk.1.2⟩⟩⟩⟩)))⟩; have n2_ : Aside0 (Kd.V Kd.string 9 w75 w.heap.size (fun k_ => (P0_0_ k_ ∨ w.heap.size ≤ k_) ∧ some k_ ≠ (u137000 : Value).ownBlock ∧ k_ ≠ gb134 ∧ k_ ≠ gb135 ∧ k_ ≠ gb136 ∧ k_ ≠ gb138) (.slice A137_0 ((rd_T60 l0_0 x4_1).f0).length c137_0) ((rd_T60 l0_0 x4_1).f0)) := ⟨(by rw [hw]; exact (by (with_reducible repeat (first | apply Kd.V_alloc | apply Kd.V_drewN | apply Kd.V_drew)); exact Kd.V_mono (Kd.V_far (p := ⟨gb138, 1, none⟩) (Kd.V_far (p := ⟨gb138, 0, none⟩) (Kd.V_mono HL137_0.out (fun k_ hk => (⟨hk, hk.2⟩ : _ ∧ k_ ≠ gb138))) (fun _ hk => hk.2) (.slice A137_0 ((rd_T60 l0_0 x4_1).f0).length c137_0)) (fun _ hk => hk.2) (.slice A137_1 ((rd_T60 l0_0 x4_1).f1).length c137_1)) (fun _ hk => ⟨hk.1.1.1, ⟨hk.1.1.2.1, ⟨hk.1.1.2.2.1, ⟨hk.1.1.2.2.2.1, ⟨hk.1.1.2.2.2.2, hk.1.2⟩⟩⟩⟩⟩)))⟩; have n3_ : Aside0 (Kd.V Kd.string 9 w75 w.heap.size (fun k_ => (P0_0_ k_ ∨ w.heap.size ≤ k_) ∧ some k_ ≠ (u137000 : Value).ownBlock ∧ k_ ≠ gb134 ∧ k_ ≠ gb135 ∧ k_ ≠ gb136 ∧ k_ ≠ gb138) (.slice A137_1 ((rd_T60 l0_0 x4_1).f1).length c137_1) ((rd_T60 l0_0 x4_1).f1)) := ⟨(by rw [hw]; exact (by (with_reducible repeat (first | apply Kd.V_alloc | apply Kd.V_drewN | apply Kd.V_drew)); exact Kd.V_mono (Kd.V_far (p := ⟨gb138, 1, none⟩) (Kd.V_far (p := ⟨gb138, 0, none⟩) (Kd.V_mono HL137_1.out (fun k_ hk => (⟨hk, hk.2⟩ : _ ∧ k_ ≠ gb138))) (fun _ hk => hk.2) (.slice A137_0 ((rd_T60 l0_0 x4_1).f0).length c137_0)) (fun _ hk => hk.2) (.slice A137_1 ((rd_T60 l0_0 x4_1).f1).length c137_1)) (fun _ hk => ⟨hk.1.1.1, ⟨hk.1.1.2.1, ⟨hk.1.1.2.2.1, ⟨hk.1.1.2.2.2.1, ⟨hk.1.1.2.2.2.2, hk.1.2⟩⟩⟩⟩⟩)))⟩; have n4_ : Aside0 (w75.heap[gb134]? = some (.cells #[.slice (some ad137) l0_0.length c0_0] 25 (0, 0))) := ⟨(by rw [hw]; exact (by (with_reducible repeat (first | refine blk_drewN ?_ _ | refine blk_drew ?_ | refine blk_alloc ?_ _)); refine blk_far ?_ NB134_138.out _; (with_reducible repeat (first | refine blk_drewN ?_ _ | refine blk_drew ?_ | refine blk_alloc ?_ _)); refine blk_far ?_ NB134_138.out _; (with_reducible repeat (first | refine blk_drewN ?_ _ | refine blk_drew ?_ | refine blk_alloc ?_ _)); exact BK134.out))⟩; have n5_ : Aside0 (w75.heap[gb135]? = some (.cells #[.slice none 0 0] 25 (0, 0))) := ⟨(by rw [hw]; exact (by (with_reducible repeat (first | refine blk_drewN ?_ _ | refine blk_drew ?_ | refine blk_alloc ?_ _)); refine blk_far ?_ NB135_138.out _; (with_reducible repeat (first | refine blk_drewN ?_ _ | refine blk_drew ?_ | refine blk_alloc ?_ _)); refine blk_far ?_ NB135_138.out _; (with_reducible repeat (first | refine blk_drewN ?_ _ | refine blk_drew ?_ | refine blk_alloc ?_ _)); exact BK135.out))⟩; have n6_ : Aside0 (w75.heap[gb136]? = some (.cells #[u137000] 25 (0, 0))) := ⟨(by rw [hw]; exact (by (with_reducible repeat (first | refine blk_drewN ?_ _ | refine blk_drew ?_ | refine blk_alloc ?_ _)); refine blk_far ?_ NB136_138.out _; (with_reducible repeat (first | refine blk_drewN ?_ _ | refine blk_drew ?_ | refine blk_alloc ?_ _)); refine blk_far ?_ NB136_138.out _; (with_reducible repeat (first | refine blk_drewN ?_ _ | refine blk_drew ?_ | refine blk_alloc ?_ _)); exact BK136.out))⟩; have n7_ : Aside0 (w75.heap[gb138]? = some (.cells #[.slice A137_0 ((rd_T60 l0_0 x4_1).f0).length c137_0, .slice A137_1 ((rd_T60 l0_0 x4_1).f1).length c137_1] 60 (0, 0))) := ⟨(by rw [hw]; exact (by (with_reducible repeat (first | refine blk_drewN ?_ _ | refine blk_drew ?_ | refine blk_alloc ?_ _)); refine blk_put (cs := #[.slice A137_0 ((rd_T60 l0_0 x4_1).f0).length c137_0, .slice none 0 0]) ?_ 1 _ rfl; (with_reducible repeat (first | refine blk_drewN ?_ _ | refine blk_drew ?_ | refine blk_alloc ?_ _)); refine blk_put (cs := #[.slice none 0 0, .slice none 0 0]) ?_ 0 _ rfl; (with_reducible repeat (first | refine blk_drewN ?_ _ | refine blk_drew ?_ | refine blk_alloc ?_ _)); exact BK138.out))⟩; have n8_ : Aside0 (Below w.heap.size w w75) := ⟨(by rw [hw]; exact (by repeat (first | (with_reducible first | exact HB.out | apply below_alloc | apply pw_below_drewN | apply below_drew1 | refine below_set ?_ GE134.out | refine below_set ?_ GE135.out | refine below_set ?_ GE136.out | refine below_set ?_ GE138.out) | exact HB.out)))⟩; clear hw; clear HO_135000; clear HO_137000; clear HL137_0; clear HL137_1; clear BK134; clear BK135; clear BK136; clear BK138; clear HB; have HO_135000 := n0_; have HO_137000 := n1_; have HL137_0 := n2_; have HL137_1 := n3_; have BK134 := n4_; have BK135 := n5_; have BK136 := n6_; have BK138 := n7_; have HB := n8_; clear n0_ n1_ n2_ n3_ n4_ n5_ n6_ n7_ n8_; have hcz76_0 : w75.cell? ⟨gb138, 0, none⟩ = some (.slice A137_0 ((rd_T60 l0_0 x4_1).f0).length c137_0) := (blk_cell BK138.out 0).trans rfl; have hcz76_1 : w75.cell? ⟨gb138, 1, none⟩ = some (.slice A137_1 ((rd_T60 l0_0 x4_1).f1).length c137_1) := (blk_cell BK138.out 1).trans rfl; have hfz76_0 := blk_frozen BK138.out 0; have hfz76_1 := blk_frozen BK138.out 1; have q77 : (8 : Int) ≤ ((((rd_T60 l0_0 x4_1).f1).length : Int) : Int) := of_decide_eq_true (by first | (with_reducible assumption) | assumption); obtain ⟨i077, hi077, _, hsz77, _⟩ := info_parts info9; have hroom77 : ((rd_T60 l0_0 x4_1).f1).length ≤ c137_1 := HC137_1.out; have hC77 : Kd.F Kd.string _ _ A137_1 ((rd_T60 l0_0 x4_1).f1).length ((rd_T60 l0_0 x4_1).f1) := (Kd.V_at (base := w.heap.size) HL137_1.out).2.2; have hcut77 := cut_to (P := Try.prog) 58 9 .i64 Try.underlying58 hi077 A137_1 ((rd_T60 l0_0 x4_1).f1).length c137_1 8 (by omega) q77 hroom77; have hr77 := Kd.F_take (m := 8) hC77 (by omega); have hy77 : y155.length = (8 : Int).toNat := (by rw [Ny155.out, List.length_take]; omega); rw [← Ny155.out] at hr77; rw [← hy77] at hcut77; have HO159 := Aside0.mk (show Kd.V Kd.string 9 _ w.heap.size _ (.slice A137_1 y155.length c137_1) y155 from Kd.V_mk (by omega) hr77); have HC159 := Aside0.mk (show y155.length ≤ c137_1 from by omega); clear hr77 hC77 hroom77 hi077 hsz77; have KY77 := Aside0.mk hy77; clear hy77; replace q77 := eq_true q77) | ((with_reducible refine gate_store (t := 58) (p := 38) rfl ?_); refine store_event (t := 58) (p := 38) (v := ?vo_w78) (w1 := (w75.setCell ⟨gb138, 1, none⟩ (.slice A137_1 y155.length c137_1))) ?hg ?ho ?hn ?hr ?_; (case ho => rfl); (case hg => rfl); (case hn => rfl); (case hr => first | (go_simp; done) | (go_simp; rfl)); intro w78 hw; have n0_ : Aside0 (Kd.V k60 60 w78 w.heap.size (fun k_ => (P0_0_ k_ ∨ w.heap.size ≤ k_) ∧ some k_ ≠ (u137000 : Value).ownBlock ∧ k_ ≠ gb134 ∧ k_ ≠ gb135 ∧ k_ ≠ gb136 ∧ k_ ≠ gb138) (.slice (some ad137) l0_0.length c0_0) l0_0) := ⟨(by rw [hw]; exact (by (with_reducible repeat (first | apply Kd.V_alloc | apply Kd.V_drewN | apply Kd.V_drew)); exact Kd.V_mono (Kd.V_far (p := ⟨gb138, 1, none⟩) (Kd.V_mono HO_135000.out (fun k_ hk => (⟨hk, hk.2.2.2.2.2⟩ : _ ∧ k_ ≠ gb138))) (fun _ hk => hk.2) (.slice A137_1 y155.length c137_1)) (fun _ hk => ⟨hk.1.1, ⟨hk.1.2.1, ⟨hk.1.2.2.1, ⟨hk.1.2.2.2.1, ⟨hk.1.2.2.2.2.1, hk.1.2.2.2.2.2⟩⟩⟩⟩⟩)))⟩; have n1_ : Aside0 (Kd.N k60 60 w78 w.heap.size (fun k_ => (P0_0_ k_ ∨ w.heap.size ≤ k_) ∧ k_ ≠ gb134 ∧ k_ ≠ gb135 ∧ k_ ≠ gb136 ∧ k_ ≠ gb138) u137000 x137000_1) := ⟨(by rw [hw]; exact (by (with_reducible repeat (first | apply Kd.N_alloc | apply Kd.N_drewN | apply Kd.N_drew)); exact Kd.N_mono (Kd.N_far (p := ⟨gb138, 1, none⟩) (Kd.N_mono HO_137000.out (fun k_ hk => (⟨hk, hk.2.2.2.2⟩ : _ ∧ k_ ≠ gb138))) (fun _ hk => hk.2) (.slice A137_1 y155.length c137_1)) (fun _ hk => ⟨hk.1.1, ⟨hk.1.2.1, ⟨hk.1.2.2.1, ⟨hk.1.2.2.2.1, hk.1.2.2.2.2⟩⟩⟩⟩)))⟩; have n2_ : Aside0 (Kd.V Kd.string 9 w78 w.heap.size (fun k_ => (P0_0_ k_ ∨ w.heap.size ≤ k_) ∧ some k_ ≠ (u137000 : Value).ownBlock ∧ k_ ≠ gb134 ∧ k_ ≠ gb135 ∧ k_ ≠ gb136 ∧ k_ ≠ gb138) (.slice A137_0 ((rd_T60 l0_0 x4_1).f0).length c137_0) ((rd_T60 l0_0 x4_1).f0)) := ⟨(by rw [hw]; exact (by (with_reducible repeat (first | apply Kd.V_alloc | apply Kd.V_drewN | apply Kd.V_drew)); exact Kd.V_mono (Kd.V_far (p := ⟨gb138, 1, none⟩) (Kd.V_mono HL137_0.out (fun k_ hk => (⟨hk, hk.2.2.2.2.2⟩ : _ ∧ k_ ≠ gb138))) (fun _ hk => hk.2) (.slice A137_1 y155.length c137_1)) (fun _ hk => ⟨hk.1.1, ⟨hk.1.2.1, ⟨hk.1.2.2.1, ⟨hk.1.2.2.2.1, ⟨hk.1.2.2.2.2.1, hk.1.2.2.2.2.2⟩⟩⟩⟩⟩)))⟩; have n3_ : Aside0 (Kd.V Kd.string 9 w78 w.heap.size (fun k_ => (P0_0_ k_ ∨ w.heap.size ≤ k_) ∧ some k_ ≠ (u137000 : Value).ownBlock ∧ k_ ≠ gb134 ∧ k_ ≠ gb135 ∧ k_ ≠ gb136 ∧ k_ ≠ gb138) (.slice A137_1 ((rd_T60 l0_0 x4_1).f1).length c137_1) ((rd_T60 l0_0 x4_1).f1)) := ⟨(by rw [hw]; exact (by (with_reducible repeat (first | apply Kd.V_alloc | apply Kd.V_drewN | apply Kd.V_drew)); exact Kd.V_mono (Kd.V_far (p := ⟨gb138, 1, none⟩) (Kd.V_mono HL137_1.out (fun k_ hk => (⟨hk, hk.2.2.2.2.2⟩ : _ ∧ k_ ≠ gb138))) (fun _ hk => hk.2) (.slice A137_1 y155.length c137_1)) (fun _ hk => ⟨hk.1.1, ⟨hk.1.2.1, ⟨hk.1.2.2.1, ⟨hk.1.2.2.2.1, ⟨hk.1.2.2.2.2.1, hk.1.2.2.2.2.2⟩⟩⟩⟩⟩)))⟩; have n4_ : Aside0 (Kd.V Kd.string 9 w78 w.heap.size (fun k_ => (P0_0_ k_ ∨ w.heap.size ≤ k_) ∧ some k_ ≠ (u137000 : Value).ownBlock ∧ k_ ≠ gb134 ∧ k_ ≠ gb135 ∧ k_ ≠ gb136 ∧ k_ ≠ gb138) (.slice A137_1 y155.length c137_1) y155) := ⟨(by rw [hw]; exact (by (with_reducible repeat (first | apply Kd.V_alloc | apply Kd.V_drewN | apply Kd.V_drew)); exact Kd.V_mono (Kd.V_far (p := ⟨gb138, 1, none⟩) (Kd.V_mono HO159.out (fun k_ hk => (⟨hk, hk.2.2.2.2.2⟩ : _ ∧ k_ ≠ gb138))) (fun _ hk => hk.2) (.slice A137_1 y155.length c137_1)) (fun _ hk => ⟨hk.1.1, ⟨hk.1.2.1, ⟨hk.1.2.2.1, ⟨hk.1.2.2.2.1, ⟨hk.1.2.2.2.2.1, hk.1.2.2.2.2.2⟩⟩⟩⟩⟩)))⟩; have n5_ : Aside0 (w78.heap[gb134]? = some (.cells #[.slice (some ad137) l0_0.length c0_0] 25 (0, 0))) := ⟨(by rw [hw]; exact (by (with_reducible repeat (first | refine blk_drewN ?_ _ | refine blk_drew ?_ | refine blk_alloc ?_ _)); refine blk_far ?_ NB134_138.out _; (with_reducible repeat (first | refine blk_drewN ?_ _ | refine blk_drew ?_ | refine blk_alloc ?_ _)); exact BK134.out))⟩; have n6_ : Aside0 (w78.heap[gb135]? = some (.cells #[.slice none 0 0] 25 (0, 0))) := ⟨(by rw [hw]; exact (by (with_reducible repeat (first | refine blk_drewN ?_ _ | refine blk_drew ?_ | refine blk_alloc ?_ _)); refine blk_far ?_ NB135_138.out _; (with_reducible repeat (first | refine blk_drewN ?_ _ | refine blk_drew ?_ | refine blk_alloc ?_ _)); exact BK135.out))⟩; have n7_ : Aside0 (w78.heap[gb136]? = some (.cells #[u137000] 25 (0, 0))) := ⟨(by rw [hw]; exact (by (with_reducible repeat (first | refine blk_drewN ?_ _ | refine blk_drew ?_ | refine blk_alloc ?_ _)); refine blk_far ?_ NB136_138.out _; (with_reducible repeat (first | refine blk_drewN ?_ _ | refine blk_drew ?_ | refine blk_alloc ?_ _)); exact BK136.out))⟩; have n8_ : Aside0 (w78.heap[gb138]? = some (.cells #[.slice A137_0 ((rd_T60 l0_0 x4_1).f0).length c137_0, .slice A137_1 y155.length c137_1] 60 (0, 0))) := ⟨(by rw [hw]; exact (by (with_reducible repeat (first | refine blk_drewN ?_ _ | refine blk_drew ?_ | refine blk_alloc ?_ _)); refine blk_put (cs := #[.slice A137_0 ((rd_T60 l0_0 x4_1).f0).length c137_0, .slice A137_1 ((rd_T60 l0_0 x4_1).f1).length c137_1]) ?_ 1 _ rfl; (with_reducible repeat (first | refine blk_drewN ?_ _ | refine blk_drew ?_ | refine blk_alloc ?_ _)); exact BK138.out))⟩; have n9_ : Aside0 (Below w.heap.size w w78) := ⟨(by rw [hw]; exact (by repeat (first | (with_reducible first | exact HB.out | apply below_alloc | apply pw_below_drewN | apply below_drew1 | refine below_set ?_ GE134.out | refine below_set ?_ GE135.out | refine below_set ?_ GE136.out | refine below_set ?_ GE138.out) | exact HB.out)))⟩; clear hw; clear HO_135000; clear HO_137000; clear HL137_0; clear HL137_1; clear HO159; clear BK134; clear BK135; clear BK136; clear BK138; clear HB; have HO_135000 := n0_; have HO_137000 := n1_; have HL137_0 := n2_; have HL137_1 := n3_; have HO159 := n4_; have BK134 := n5_; have BK135 := n6_; have BK136 := n7_; have BK138 := n8_; have HB := n9_; clear n0_ n1_ n2_ n3_ n4_ n5_ n6_ n7_ n8_ n9_; have hnb79 := NB136_135.out; have hnc79 := NB135_136.out; have hcz80_0 : w78.cell? ⟨gb136, 0, none⟩ = some (u137000) := (blk_cell BK136.out 0).trans rfl; have hfz80_0 := blk_frozen BK136.out 0; have hcz81_0 : w78.cell? ⟨gb138, 0, none⟩ = some (.slice A137_0 ((rd_T60 l0_0 x4_1).f0).length c137_0) := (blk_cell BK138.out 0).trans rfl; have hcz81_1 : w78.cell? ⟨gb138, 1, none⟩ = some (.slice A137_1 y155.length c137_1) := (blk_cell BK138.out 1).trans rfl; have hfz81_0 := blk_frozen BK138.out 0; have hfz81_1 := blk_frozen BK138.out 1) | ((with_reducible refine gate_builtin (b := .append) (xs := #[.tmp 40, .tmp 42]) rfl ?_); at_builtin; refine Kd.N_append k60 (w0 := w) w.heap.size rfl (.tmp 40) (.tmp 42) 23 60 (.agg #[(.slice none 0 0), (.slice none 0 0)]) 48 rfl Try.underlying23 info60 rfl (by decide) (by omega) u137000 x137000_1 (⟨(rd_T60 l0_0 x4_1).f0, y155⟩ : S60) [.slice A137_0 ((rd_T60 l0_0 x4_1).f0).length c137_0, .slice A137_1 y155.length c137_1] (fun k_ => (P0_0_ k_ ∨ w.heap.size ≤ k_) ∧ k_ ≠ gb134 ∧ k_ ≠ gb135 ∧ k_ ≠ gb136 ∧ k_ ≠ gb138) (fun k_ => ((fun k_ => (P0_0_ k_ ∨ w.heap.size ≤ k_) ∧ k_ ≠ gb134 ∧ k_ ≠ gb135 ∧ k_ ≠ gb136 ∧ k_ ≠ gb138)) k_ ∧ some k_ ≠ (u137000 : Value).ownBlock) rfl rfl ?aP (fun _ hk => hk) ?aF ?aO ?aB ?aS ?aL ?_; (case aP => exact (k60_mkF _ _ (⟨(rd_T60 l0_0 x4_1).f0, y155⟩ : S60) (Kd.V_reads' (Kd.V_mono (ok' := (fun k_ => ((fun k_ => (P0_0_ k_ ∨ w.heap.size ≤ k_) ∧ k_ ≠ gb134 ∧ k_ ≠ gb135 ∧ k_ ≠ gb136 ∧ k_ ≠ gb138)) k_ ∧ some k_ ≠ (u137000 : Value).ownBlock)) (HL137_0.out) (fun k_ hk => ⟨⟨hk.1, ⟨hk.2.2.1, ⟨hk.2.2.2.1, ⟨hk.2.2.2.2.1, hk.2.2.2.2.2⟩⟩⟩⟩, hk.2.1⟩))).2.1 (Kd.V_F (Kd.V_mono (ok' := (fun k_ => ((fun k_ => (P0_0_ k_ ∨ w.heap.size ≤ k_) ∧ k_ ≠ gb134 ∧ k_ ≠ gb135 ∧ k_ ≠ gb136 ∧ k_ ≠ gb138)) k_ ∧ some k_ ≠ (u137000 : Value).ownBlock)) (HL137_0.out) (fun k_ hk => ⟨⟨hk.1, ⟨hk.2.2.1, ⟨hk.2.2.2.1, ⟨hk.2.2.2.2.1, hk.2.2.2.2.2⟩⟩⟩⟩, hk.2.1⟩))) (Kd.V_reads' (Kd.V_mono (ok' := (fun k_ => ((fun k_ => (P0_0_ k_ ∨ w.heap.size ≤ k_) ∧ k_ ≠ gb134 ∧ k_ ≠ gb135 ∧ k_ ≠ gb136 ∧ k_ ≠ gb138)) k_ ∧ some k_ ≠ (u137000 : Value).ownBlock)) (HO159.out) (fun k_ hk => ⟨⟨hk.1, ⟨hk.2.2.1, ⟨hk.2.2.2.1, ⟨hk.2.2.2.2.1, hk.2.2.2.2.2⟩⟩⟩⟩, hk.2.1⟩))).2.1 (Kd.V_F (Kd.V_mono (ok' := (fun k_ => ((fun k_ => (P0_0_ k_ ∨ w.heap.size ≤ k_) ∧ k_ ≠ gb134 ∧ k_ ≠ gb135 ∧ k_ ≠ gb136 ∧ k_ ≠ gb138)) k_ ∧ some k_ ≠ (u137000 : Value).ownBlock)) (HO159.out) (fun k_ hk => ⟨⟨hk.1, ⟨hk.2.2.1, ⟨hk.2.2.2.1, ⟨hk.2.2.2.2.1, hk.2.2.2.2.2⟩⟩⟩⟩, hk.2.1⟩))))); (case aB => exact (by repeat (first | (with_reducible first | exact HB.out | apply below_alloc | apply pw_below_drewN | apply below_drew1 | refine below_set ?_ GE134.out | refine below_set ?_ GE135.out | refine below_set ?_ GE136.out | refine below_set ?_ GE138.out) | exact HB.out))); (case aF => exact (fun k_ hk => ⟨(.inr (Nat.le_trans (below_size (by repeat (first | (with_reducible first | exact HB.out | apply below_alloc | apply pw_below_drewN | apply below_drew1 | refine below_set ?_ GE134.out | refine below_set ?_ GE135.out | refine below_set ?_ GE136.out | refine below_set ?_ GE138.out) | exact HB.out))) hk)), Kd.freshB (g := gb134) (o := .cells #[.slice (some ad137) l0_0.length c0_0] 25 (0, 0)) (by (with_reducible repeat (first | refine blk_drewN ?_ _ | refine blk_drew ?_ | refine blk_alloc ?_ _)); exact BK134.out) k_ hk, Kd.freshB (g := gb135) (o := .cells #[.slice none 0 0] 25 (0, 0)) (by (with_reducible repeat (first | refine blk_drewN ?_ _ | refine blk_drew ?_ | refine blk_alloc ?_ _)); exact BK135.out) k_ hk, Kd.freshB (g := gb136) (o := .cells #[u137000] 25 (0, 0)) (by (with_reducible repeat (first | refine blk_drewN ?_ _ | refine blk_drew ?_ | refine blk_alloc ?_ _)); exact BK136.out) k_ hk, Kd.freshB (g := gb138) (o := .cells #[.slice A137_0 ((rd_T60 l0_0 x4_1).f0).length c137_0, .slice A137_1 y155.length c137_1] 60 (0, 0)) (by (with_reducible repeat (first | refine blk_drewN ?_ _ | refine blk_drew ?_ | refine blk_alloc ?_ _)); exact BK138.out) k_ hk⟩)); (case aO => exact (by (with_reducible repeat (first | apply Kd.N_alloc | apply Kd.N_drewN | apply Kd.N_drew)); exact HO_137000.out)); (case aS => exact (below_size (by repeat (first | (with_reducible first | exact HB.out | apply below_alloc | apply pw_below_drewN | apply below_drew1 | refine below_set ?_ GE134.out | refine below_set ?_ GE135.out | refine below_set ?_ GE136.out | refine below_set ?_ GE138.out) | exact HB.out)))); (case aL => have := LMc66.out; omega); intro v161 w82 ho hb hg hat; rw [← Ny160.out] at ho; have n0_ := Aside0.mk (Kd.V_afterv (ok := (fun k_ => (P0_0_ k_ ∨ w.heap.size ≤ k_) ∧ k_ ≠ gb134 ∧ k_ ≠ gb135 ∧ k_ ≠ gb136 ∧ k_ ≠ gb138)) (by (with_reducible repeat (first | apply Kd.V_alloc | apply Kd.V_drewN | apply Kd.V_drew)); exact Kd.V_mono HO_135000.out (fun _ hk => ⟨⟨hk.1, ⟨hk.2.2.1, ⟨hk.2.2.2.1, ⟨hk.2.2.2.2.1, hk.2.2.2.2.2⟩⟩⟩⟩, hk.2.1⟩)) hg hat); have n1_ := Aside0.mk (blk_grown (g := gb134) (o := .cells #[.slice (some ad137) l0_0.length c0_0] 25 (0, 0)) (by (with_reducible repeat (first | refine blk_drewN ?_ _ | refine blk_drew ?_ | refine blk_alloc ?_ _)); exact BK134.out) hg (Kd.N_ne HO_137000.out BK134.out (by decide))); have n2_ := Aside0.mk (blk_grown (g := gb135) (o := .cells #[.slice none 0 0] 25 (0, 0)) (by (with_reducible repeat (first | refine blk_drewN ?_ _ | refine blk_drew ?_ | refine blk_alloc ?_ _)); exact BK135.out) hg (Kd.N_ne HO_137000.out BK135.out (by decide))); have n3_ := Aside0.mk (blk_grown (g := gb136) (o := .cells #[u137000] 25 (0, 0)) (by (with_reducible repeat (first | refine blk_drewN ?_ _ | refine blk_drew ?_ | refine blk_alloc ?_ _)); exact BK136.out) hg (Kd.N_ne HO_137000.out BK136.out (by decide))); have n4_ := Aside0.mk (Kd.V_afterv (ok := (fun k_ => (P0_0_ k_ ∨ w.heap.size ≤ k_) ∧ k_ ≠ gb134 ∧ k_ ≠ gb135 ∧ k_ ≠ gb136 ∧ k_ ≠ gb138)) (by (with_reducible repeat (first | apply Kd.V_alloc | apply Kd.V_drewN | apply Kd.V_drew)); exact Kd.V_mono HL137_0.out (fun _ hk => ⟨⟨hk.1, ⟨hk.2.2.1, ⟨hk.2.2.2.1, ⟨hk.2.2.2.2.1, hk.2.2.2.2.2⟩⟩⟩⟩, hk.2.1⟩)) hg hat); have n5_ := Aside0.mk (Kd.V_afterv (ok := (fun k_ => (P0_0_ k_ ∨ w.heap.size ≤ k_) ∧ k_ ≠ gb134 ∧ k_ ≠ gb135 ∧ k_ ≠ gb136 ∧ k_ ≠ gb138)) (by (with_reducible repeat (first | apply Kd.V_alloc | apply Kd.V_drewN | apply Kd.V_drew)); exact Kd.V_mono HL137_1.out (fun _ hk => ⟨⟨hk.1, ⟨hk.2.2.1, ⟨hk.2.2.2.1, ⟨hk.2.2.2.2.1, hk.2.2.2.2.2⟩⟩⟩⟩, hk.2.1⟩)) hg hat); have n6_ := Aside0.mk (blk_grown (g := gb138) (o := .cells #[.slice A137_0 ((rd_T60 l0_0 x4_1).f0).length c137_0, .slice A137_1 y155.length c137_1] 60 (0, 0)) (by (with_reducible repeat (first | refine blk_drewN ?_ _ | refine blk_drew ?_ | refine blk_alloc ?_ _)); exact BK138.out) hg (Kd.N_away HO_137000.out (fun _ hk => hk.2.2.2.2))); have n7_ := Aside0.mk (Kd.V_afterv (ok := (fun k_ => (P0_0_ k_ ∨ w.heap.size ≤ k_) ∧ k_ ≠ gb134 ∧ k_ ≠ gb135 ∧ k_ ≠ gb136 ∧ k_ ≠ gb138)) (by (with_reducible repeat (first | apply Kd.V_alloc | apply Kd.V_drewN | apply Kd.V_drew)); exact Kd.V_mono HO159.out (fun _ hk => ⟨⟨hk.1, ⟨hk.2.2.1, ⟨hk.2.2.2.1, ⟨hk.2.2.2.2.1, hk.2.2.2.2.2⟩⟩⟩⟩, hk.2.1⟩)) hg hat); have n8_ := Aside0.mk (hb); have n9_ := Aside0.mk (ho); clear HO_135000; clear BK134; clear BK135; clear BK136; clear HL137_0; clear HL137_1; clear BK138; clear HO159; clear HB; clear HO_137000; have HO_135000 := n0_; have BK134 := n1_; have BK135 := n2_; have BK136 := n3_; have HL137_0 := n4_; have HL137_1 := n5_; have BK138 := n6_; have HO159 := n7_; have HB := n8_; have HO162 := n9_; clear n0_ n1_ n2_ n3_ n4_ n5_ n6_ n7_ n8_ n9_; clear ho hb hg hat; obtain ⟨Ao83, co83, eo83⟩ := Kd.N_slice HO162.out; subst eo83; have hcz84_0 : w82.cell? ⟨gb136, 0, none⟩ = some (u137000) := (blk_cell BK136.out 0).trans rfl; have hfz84_0 := blk_frozen BK136.out 0))
                        go_roundg kj7
                        case measure => have := HK1.out; have := HJ7.out; omega
                        case rel => exact ⟨(wrap64 (x4_1 + 1)), (y160), (.slice Ao83 y160.length co83), (by first | rfl | (simp; done) | (simp [*]; done)), H', ⟨by have := HK1.out; have := HJ7.out; omega⟩, ⟨by (with_reducible repeat (first | apply Kd.V_alloc | apply Kd.V_drewN | apply Kd.V_drew)); exact Kd.V_mono (Kd.V_far (p := ⟨gb136, 0, none⟩) (Kd.V_mono HO_135000.out (fun k_ hk => (⟨hk, hk.1.2.2.2.1⟩ : _ ∧ k_ ≠ gb136))) (fun _ hk => hk.2) (.slice Ao83 y160.length co83)) (fun _ hk => ⟨hk.1.1.1, ⟨hk.1.2, ⟨hk.1.1.2.1, ⟨hk.1.1.2.2.1, hk.1.1.2.2.2.1⟩⟩⟩⟩)⟩, ⟨by (with_reducible repeat (first | apply Kd.N_alloc | apply Kd.N_drewN | apply Kd.N_drew)); exact Kd.N_mono (Kd.N_far (p := ⟨gb136, 0, none⟩) (Kd.N_mono HO162.out (fun k_ hk => (⟨hk, hk.2.2.2.1⟩ : _ ∧ k_ ≠ gb136))) (fun _ hk => hk.2) (.slice Ao83 y160.length co83)) (fun _ hk => ⟨hk.1.1, ⟨hk.1.2.1, ⟨hk.1.2.2.1, hk.1.2.2.2.1⟩⟩⟩)⟩, ⟨by (with_reducible repeat (first | refine blk_drewN ?_ _ | refine blk_drew ?_ | refine blk_alloc ?_ _)); refine blk_far ?_ NB134_136.out _; (with_reducible repeat (first | refine blk_drewN ?_ _ | refine blk_drew ?_ | refine blk_alloc ?_ _)); exact BK134.out⟩, ⟨by (with_reducible repeat (first | refine blk_drewN ?_ _ | refine blk_drew ?_ | refine blk_alloc ?_ _)); refine blk_far ?_ NB135_136.out _; (with_reducible repeat (first | refine blk_drewN ?_ _ | refine blk_drew ?_ | refine blk_alloc ?_ _)); exact BK135.out⟩, ⟨by (with_reducible repeat (first | refine blk_drewN ?_ _ | refine blk_drew ?_ | refine blk_alloc ?_ _)); refine blk_put (cs := #[u137000]) ?_ 0 _ rfl; (with_reducible repeat (first | refine blk_drewN ?_ _ | refine blk_drew ?_ | refine blk_alloc ?_ _)); exact BK136.out⟩, ⟨by repeat (first | (with_reducible first | exact HB.out | apply below_alloc | apply pw_below_drewN | apply below_drew1 | refine below_set ?_ GE134.out | refine below_set ?_ GE135.out | refine below_set ?_ GE136.out | refine below_set ?_ GE138.out) | exact HB.out)⟩⟩
                      · rw [if_neg c66] at H
                        exact absurd H (by simp)
                    · rw [if_neg c65] at H
                      exact absurd H (by simp)
                  · rw [if_neg c64] at H
                    have c64b0 : decide (8 < (((rd_T60 l0_0 x4_1).f1).length : Int)) = false := decide_eq_false c64
                    have c64b1 : decide (8 < ((rd_T60 l0_0 x4_1).f1).length) = false := decide_eq_false (by omega)
                    clear c64
                    by_cases c85 : x137000_1.length < 2932031007402
                    · rw [if_pos c85] at H
                      have LMc85 := Aside0.mk c85
                      clear c85
                      obtain ⟨y163, hy163⟩ : ∃ y_ : List (S60), y_ = (x137000_1 ++ [(⟨(rd_T60 l0_0 x4_1).f0, (rd_T60 l0_0 x4_1).f1⟩ : S60)]) := ⟨_, rfl⟩
                      replace H : (registrarlaw07_few.l0 kj7 (wrap64 (x4_1 + 1)) l0_0 y163) = some r := by first | (rw [hy163]; with_reducible exact H) | (have H2_ := (Option.bind_some _ _).symm.trans H; rw [hy163]; with_reducible exact H2_) | (have H2_ := (Option.bind_some _ _).symm.trans H; with_reducible exact H2_) | with_reducible exact H | (rw [hy163]; exact H) | exact H
                      have Ny163 := Aside0.mk hy163
                      clear hy163
                      have H' := Aside0.mk H
                      clear H
                      have hnb86 := NB134_135.out
                      have hnc86 := NB135_134.out
                      have hnb87 := NB134_136.out
                      have hnc87 := NB136_134.out
                      have hcz88_0 : wc.cell? ⟨gb134, 0, none⟩ = some (.slice A0_0 l0_0.length c0_0) := (blk_cell BK134.out 0).trans rfl
                      have hfz88_0 := blk_frozen BK134.out 0
                      have p137 : 0 ≤ (x4_1 : Int) := of_decide_eq_true (by first | (with_reducible assumption) | assumption)
                      have q137 : x4_1 < (l0_0.length : Int) := of_decide_eq_true (by first | (with_reducible assumption) | assumption)
                      obtain ⟨ad137, A137_0, c137_0, A137_1, c137_1, e137, hx137_0, hx137_1, hl137_0, hi137_0, hl137_1, hi137_1⟩ := at_T60 (Kd.V_reads' HO_135000.out).2.2 x4_1 p137 q137
                      cases e137
                      obtain ⟨ce137, hce137, hMe137, hcc137⟩ := Kd.V_get HO_135000.out z60 x4_1 p137 (by first | exact q137 | exact of_decide_eq_true (by first | (with_reducible assumption) | assumption) | (have e_ := (Kd.V_reads' HO_135000.out).1; omega))
                      obtain ⟨ua137_0, uc137_0, ua137_1, uc137_1, rfl, ul137_0, ge137_0, ul137_1, ge137_1⟩ := k60_openF hMe137
                      have hv137_0 := hcc137 0 _ rfl
                      rw [Nat.add_zero] at hv137_0
                      replace hv137_0 := Option.some.inj (hv137_0.symm.trans hx137_0)
                      injection hv137_0 with hva_ hvn_ hvc_
                      rw [hva_] at ge137_0
                      rw [hvc_] at ul137_0
                      have HL137_0 := Aside0.mk (show Kd.V Kd.string 9 _ w.heap.size _ _ ((rd_T60 l0_0 x4_1).f0) from Kd.V_mk ul137_0 ge137_0)
                      clear hva_ hvn_ hvc_ ge137_0 ul137_0
                      have hv137_1 := hcc137 1 _ rfl
                      rw [add_field _ _ 1 (by omega)] at hv137_1
                      replace hv137_1 := Option.some.inj (hv137_1.symm.trans hx137_1)
                      injection hv137_1 with hva_ hvn_ hvc_
                      rw [hva_] at ge137_1
                      rw [hvc_] at ul137_1
                      have HL137_1 := Aside0.mk (show Kd.V Kd.string 9 _ w.heap.size _ _ ((rd_T60 l0_0 x4_1).f1) from Kd.V_mk ul137_1 ge137_1)
                      clear hva_ hvn_ hvc_ ge137_1 ul137_1
                      clear hcc137 hce137
                      have HR137_0 := Aside0.mk hi137_0
                      have HC137_0 := Aside0.mk hl137_0
                      clear hi137_0 hl137_0
                      have HR137_1 := Aside0.mk hi137_1
                      have HC137_1 := Aside0.mk hl137_1
                      clear hi137_1 hl137_1
                      replace p137 := eq_true p137
                      replace q137 := eq_true q137
                      go_wp2_with (first | ((with_reducible refine gate_dst (N := 5) rfl ?_); refine box_event ?hg (N := 5) ?hd (cs := #[.slice none 0 0, .slice none 0 0]) (t := 60) ?hr ?_; (case hd => rfl); (case hg => rfl); (case hr => first | (go_simp; done) | (go_simp; rfl)); intro gb138 hg w89 hbox hb; have n0_ := Aside0.mk (Kd.V_below (Kd.V_elderB (by (with_reducible repeat (first | apply Kd.V_alloc | apply Kd.V_drewN | apply Kd.V_drew)); exact HO_135000.out) gb138 (Nat.le_of_eq hg.symm)) hb); have n1_ := Aside0.mk (Kd.N_below (Kd.N_elderB (by (with_reducible repeat (first | apply Kd.N_alloc | apply Kd.N_drewN | apply Kd.N_drew)); exact HO_137000.out) gb138 (Nat.le_of_eq hg.symm)) hb); have n2_ := Aside0.mk (Kd.V_below (Kd.V_elderB (by (with_reducible repeat (first | apply Kd.V_alloc | apply Kd.V_drewN | apply Kd.V_drew)); exact HL137_0.out) gb138 (Nat.le_of_eq hg.symm)) hb); have n3_ := Aside0.mk (Kd.V_below (Kd.V_elderB (by (with_reducible repeat (first | apply Kd.V_alloc | apply Kd.V_drewN | apply Kd.V_drew)); exact HL137_1.out) gb138 (Nat.le_of_eq hg.symm)) hb); have n4_ := Aside0.mk (blk_below (g := gb134) (o := .cells #[.slice (some ad137) l0_0.length c0_0] 25 (0, 0)) (by (with_reducible repeat (first | refine blk_drewN ?_ _ | refine blk_drew ?_ | refine blk_alloc ?_ _)); exact BK134.out) hb); have n5_ := Aside0.mk (blk_below (g := gb135) (o := .cells #[.slice none 0 0] 25 (0, 0)) (by (with_reducible repeat (first | refine blk_drewN ?_ _ | refine blk_drew ?_ | refine blk_alloc ?_ _)); exact BK135.out) hb); have n6_ := Aside0.mk (blk_below (g := gb136) (o := .cells #[u137000] 25 (0, 0)) (by (with_reducible repeat (first | refine blk_drewN ?_ _ | refine blk_drew ?_ | refine blk_alloc ?_ _)); exact BK136.out) hb); have n7_ := Aside0.mk (Kd.C_below (by repeat (first | (with_reducible exact HR137_0.out) | (with_reducible refine Kd.C_alloc ?_ _) | (with_reducible refine Kd.C_drewN ?_ _) | (with_reducible refine Kd.C_drew ?_) | exact HR137_0.out | exact (Kd.V_reads' HL137_0.out).2.2)) hb); have n8_ := Aside0.mk (Kd.C_below (by repeat (first | (with_reducible exact HR137_1.out) | (with_reducible refine Kd.C_alloc ?_ _) | (with_reducible refine Kd.C_drewN ?_ _) | (with_reducible refine Kd.C_drew ?_) | exact HR137_1.out | exact (Kd.V_reads' HL137_1.out).2.2)) hb); have n9_ := Aside0.mk (below_step (by repeat (first | (with_reducible first | exact HB.out | apply below_alloc | apply pw_below_drewN | apply below_drew1 | refine below_set ?_ GE134.out | refine below_set ?_ GE135.out | refine below_set ?_ GE136.out) | exact HB.out)) hb); have n10_ := Aside0.mk (hbox); have n11_ := Aside0.mk ((by rw [hg]; exact (below_size (by repeat (first | (with_reducible first | exact HB.out | apply below_alloc | apply pw_below_drewN | apply below_drew1 | refine below_set ?_ GE134.out | refine below_set ?_ GE135.out | refine below_set ?_ GE136.out) | exact HB.out))) : w.heap.size ≤ gb138)); have n12_ := Aside0.mk ((by rw [hg]; exact (below_size (by repeat (first | (with_reducible first | exact HB.out | apply below_alloc | apply pw_below_drewN | apply below_drew1 | refine below_set ?_ GE134.out | refine below_set ?_ GE135.out | refine below_set ?_ GE136.out) | exact HB.out))) : w.heap.size ≤ gb138)); have n13_ := Aside0.mk ((by rw [hg]; exact Nat.ne_of_lt (blk_lt (g := gb134) (o := .cells #[.slice (some ad137) l0_0.length c0_0] 25 (0, 0)) (by (with_reducible repeat (first | refine blk_drewN ?_ _ | refine blk_drew ?_ | refine blk_alloc ?_ _)); exact BK134.out)) : gb134 ≠ gb138)); have n14_ := Aside0.mk ((by rw [hg]; exact Nat.ne_of_gt (blk_lt (g := gb134) (o := .cells #[.slice (some ad137) l0_0.length c0_0] 25 (0, 0)) (by (with_reducible repeat (first | refine blk_drewN ?_ _ | refine blk_drew ?_ | refine blk_alloc ?_ _)); exact BK134.out)) : gb138 ≠ gb134)); have n15_ := Aside0.mk ((by rw [hg]; exact Nat.ne_of_lt (blk_lt (g := gb135) (o := .cells #[.slice none 0 0] 25 (0, 0)) (by (with_reducible repeat (first | refine blk_drewN ?_ _ | refine blk_drew ?_ | refine blk_alloc ?_ _)); exact BK135.out)) : gb135 ≠ gb138)); have n16_ := Aside0.mk ((by rw [hg]; exact Nat.ne_of_gt (blk_lt (g := gb135) (o := .cells #[.slice none 0 0] 25 (0, 0)) (by (with_reducible repeat (first | refine blk_drewN ?_ _ | refine blk_drew ?_ | refine blk_alloc ?_ _)); exact BK135.out)) : gb138 ≠ gb135)); have n17_ := Aside0.mk ((by rw [hg]; exact Nat.ne_of_lt (blk_lt (g := gb136) (o := .cells #[u137000] 25 (0, 0)) (by (with_reducible repeat (first | refine blk_drewN ?_ _ | refine blk_drew ?_ | refine blk_alloc ?_ _)); exact BK136.out)) : gb136 ≠ gb138)); have n18_ := Aside0.mk ((by rw [hg]; exact Nat.ne_of_gt (blk_lt (g := gb136) (o := .cells #[u137000] 25 (0, 0)) (by (with_reducible repeat (first | refine blk_drewN ?_ _ | refine blk_drew ?_ | refine blk_alloc ?_ _)); exact BK136.out)) : gb138 ≠ gb136)); clear HO_135000; clear HO_137000; clear HL137_0; clear HL137_1; clear BK134; clear BK135; clear BK136; clear HR137_0; clear HR137_1; clear HB; have HO_135000 := n0_; have HO_137000 := n1_; have HL137_0 := n2_; have HL137_1 := n3_; have BK134 := n4_; have BK135 := n5_; have BK136 := n6_; have HR137_0 := n7_; have HR137_1 := n8_; have HB := n9_; have BK138 := n10_; have GW138 := n11_; have GE138 := n12_; have NB134_138 := n13_; have NB138_134 := n14_; have NB135_138 := n15_; have NB138_135 := n16_; have NB136_138 := n17_; have NB138_136 := n18_; clear n0_ n1_ n2_ n3_ n4_ n5_ n6_ n7_ n8_ n9_ n10_ n11_ n12_ n13_ n14_ n15_ n16_ n17_ n18_; clear hb hbox hg; have hnb90 := NB138_134.out; have hnc90 := NB134_138.out; have hnb91 := NB138_135.out; have hnc91 := NB135_138.out; have hnb92 := NB138_136.out; have hnc92 := NB136_138.out; have hcz93_0 : w89.cell? ⟨gb138, 0, none⟩ = some (.slice none 0 0) := (blk_cell BK138.out 0).trans rfl; have hcz93_1 : w89.cell? ⟨gb138, 1, none⟩ = some (.slice none 0 0) := (blk_cell BK138.out 1).trans rfl; have hfz93_0 := blk_frozen BK138.out 0; have hfz93_1 := blk_frozen BK138.out 1) | ((with_reducible refine gate_store (t := 60) (p := 5) rfl ?_); refine store_event (t := 60) (p := 5) (v := ?vo_w94) (w1 := ((w89.setCell ⟨gb138, 0, none⟩ (.slice A137_0 ((rd_T60 l0_0 x4_1).f0).length c137_0)).setCell ⟨gb138, 1, none⟩ (.slice A137_1 ((rd_T60 l0_0 x4_1).f1).length c137_1))) ?hg ?ho ?hn ?hr ?_; (case ho => rfl); (case hg => rfl); (case hn => rfl); (case hr => first | (go_simp; done) | (go_simp; rfl)); intro w94 hw; have n0_ : Aside0 (Kd.V k60 60 w94 w.heap.size (fun k_ => (P0_0_ k_ ∨ w.heap.size ≤ k_) ∧ some k_ ≠ (u137000 : Value).ownBlock ∧ k_ ≠ gb134 ∧ k_ ≠ gb135 ∧ k_ ≠ gb136 ∧ k_ ≠ gb138) (.slice (some ad137) l0_0.length c0_0) l0_0) := ⟨(by rw [hw]; exact (by (with_reducible repeat (first | apply Kd.V_alloc | apply Kd.V_drewN | apply Kd.V_drew)); exact Kd.V_mono (Kd.V_far (p := ⟨gb138, 1, none⟩) (Kd.V_far (p := ⟨gb138, 0, none⟩) (Kd.V_mono HO_135000.out (fun k_ hk => (⟨hk, hk.2⟩ : _ ∧ k_ ≠ gb138))) (fun _ hk => hk.2) (.slice A137_0 ((rd_T60 l0_0 x4_1).f0).length c137_0)) (fun _ hk => hk.2) (.slice A137_1 ((rd_T60 l0_0 x4_1).f1).length c137_1)) (fun _ hk => ⟨hk.1.1.1, ⟨hk.1.1.2.1, ⟨hk.1.1.2.2.1, ⟨hk.1.1.2.2.2.1, ⟨hk.1.1.2.2.2.2, hk.1.2⟩⟩⟩⟩⟩)))⟩; have n1_ : Aside0 (Kd.N k60 60 w94 w.heap.size (fun k_ => (P0_0_ k_ ∨ w.heap.size ≤ k_) ∧ k_ ≠ gb134 ∧ k_ ≠ gb135 ∧ k_ ≠ gb136 ∧ k_ ≠ gb138) u137000 x137000_1) := ⟨(by rw [hw]; exact (by (with_reducible repeat (first | apply Kd.N_alloc | apply Kd.N_drewN | apply Kd.N_drew)); exact Kd.N_mono (Kd.N_far (p := ⟨gb138, 1, none⟩) (Kd.N_far (p := ⟨gb138, 0, none⟩) (Kd.N_mono HO_137000.out (fun k_ hk => (⟨hk, hk.2⟩ : _ ∧ k_ ≠ gb138))) (fun _ hk => hk.2) (.slice A137_0 ((rd_T60 l0_0 x4_1).f0).length c137_0)) (fun _ hk => hk.2) (.slice A137_1 ((rd_T60 l0_0 x4_1).f1).length c137_1)) (fun _ hk => ⟨hk.1.1.1, ⟨hk.1.1.2.1, ⟨hk.1.1.2.2.1, ⟨hk.1.1.2.2.2, hk.1.2⟩⟩⟩⟩)))⟩; have n2_ : Aside0 (Kd.V Kd.string 9 w94 w.heap.size (fun k_ => (P0_0_ k_ ∨ w.heap.size ≤ k_) ∧ some k_ ≠ (u137000 : Value).ownBlock ∧ k_ ≠ gb134 ∧ k_ ≠ gb135 ∧ k_ ≠ gb136 ∧ k_ ≠ gb138) (.slice A137_0 ((rd_T60 l0_0 x4_1).f0).length c137_0) ((rd_T60 l0_0 x4_1).f0)) := ⟨(by rw [hw]; exact (by (with_reducible repeat (first | apply Kd.V_alloc | apply Kd.V_drewN | apply Kd.V_drew)); exact Kd.V_mono (Kd.V_far (p := ⟨gb138, 1, none⟩) (Kd.V_far (p := ⟨gb138, 0, none⟩) (Kd.V_mono HL137_0.out (fun k_ hk => (⟨hk, hk.2⟩ : _ ∧ k_ ≠ gb138))) (fun _ hk => hk.2) (.slice A137_0 ((rd_T60 l0_0 x4_1).f0).length c137_0)) (fun _ hk => hk.2) (.slice A137_1 ((rd_T60 l0_0 x4_1).f1).length c137_1)) (fun _ hk => ⟨hk.1.1.1, ⟨hk.1.1.2.1, ⟨hk.1.1.2.2.1, ⟨hk.1.1.2.2.2.1, ⟨hk.1.1.2.2.2.2, hk.1.2⟩⟩⟩⟩⟩)))⟩; have n3_ : Aside0 (Kd.V Kd.string 9 w94 w.heap.size (fun k_ => (P0_0_ k_ ∨ w.heap.size ≤ k_) ∧ some k_ ≠ (u137000 : Value).ownBlock ∧ k_ ≠ gb134 ∧ k_ ≠ gb135 ∧ k_ ≠ gb136 ∧ k_ ≠ gb138) (.slice A137_1 ((rd_T60 l0_0 x4_1).f1).length c137_1) ((rd_T60 l0_0 x4_1).f1)) := ⟨(by rw [hw]; exact (by (with_reducible repeat (first | apply Kd.V_alloc | apply Kd.V_drewN | apply Kd.V_drew)); exact Kd.V_mono (Kd.V_far (p := ⟨gb138, 1, none⟩) (Kd.V_far (p := ⟨gb138, 0, none⟩) (Kd.V_mono HL137_1.out (fun k_ hk => (⟨hk, hk.2⟩ : _ ∧ k_ ≠ gb138))) (fun _ hk => hk.2) (.slice A137_0 ((rd_T60 l0_0 x4_1).f0).length c137_0)) (fun _ hk => hk.2) (.slice A137_1 ((rd_T60 l0_0 x4_1).f1).length c137_1)) (fun _ hk => ⟨hk.1.1.1, ⟨hk.1.1.2.1, ⟨hk.1.1.2.2.1, ⟨hk.1.1.2.2.2.1, ⟨hk.1.1.2.2.2.2, hk.1.2⟩⟩⟩⟩⟩)))⟩; have n4_ : Aside0 (w94.heap[gb134]? = some (.cells #[.slice (some ad137) l0_0.length c0_0] 25 (0, 0))) := ⟨(by rw [hw]; exact (by (with_reducible repeat (first | refine blk_drewN ?_ _ | refine blk_drew ?_ | refine blk_alloc ?_ _)); refine blk_far ?_ NB134_138.out _; (with_reducible repeat (first | refine blk_drewN ?_ _ | refine blk_drew ?_ | refine blk_alloc ?_ _)); refine blk_far ?_ NB134_138.out _; (with_reducible repeat (first | refine blk_drewN ?_ _ | refine blk_drew ?_ | refine blk_alloc ?_ _)); exact BK134.out))⟩; have n5_ : Aside0 (w94.heap[gb135]? = some (.cells #[.slice none 0 0] 25 (0, 0))) := ⟨(by rw [hw]; exact (by (with_reducible repeat (first | refine blk_drewN ?_ _ | refine blk_drew ?_ | refine blk_alloc ?_ _)); refine blk_far ?_ NB135_138.out _; (with_reducible repeat (first | refine blk_drewN ?_ _ | refine blk_drew ?_ | refine blk_alloc ?_ _)); refine blk_far ?_ NB135_138.out _; (with_reducible repeat (first | refine blk_drewN ?_ _ | refine blk_drew ?_ | refine blk_alloc ?_ _)); exact BK135.out))⟩; have n6_ : Aside0 (w94.heap[gb136]? = some (.cells #[u137000] 25 (0, 0))) := ⟨(by rw [hw]; exact (by (with_reducible repeat (first | refine blk_drewN ?_ _ | refine blk_drew ?_ | refine blk_alloc ?_ _)); refine blk_far ?_ NB136_138.out _; (with_reducible repeat (first | refine blk_drewN ?_ _ | refine blk_drew ?_ | refine blk_alloc ?_ _)); refine blk_far ?_ NB136_138.out _; (with_reducible repeat (first | refine blk_drewN ?_ _ | refine blk_drew ?_ | refine blk_alloc ?_ _)); exact BK136.out))⟩; have n7_ : Aside0 (w94.heap[gb138]? = some (.cells #[.slice A137_0 ((rd_T60 l0_0 x4_1).f0).length c137_0, .slice A137_1 ((rd_T60 l0_0 x4_1).f1).length c137_1] 60 (0, 0))) := ⟨(by rw [hw]; exact (by (with_reducible repeat (first | refine blk_drewN ?_ _ | refine blk_drew ?_ | refine blk_alloc ?_ _)); refine blk_put (cs := #[.slice A137_0 ((rd_T60 l0_0 x4_1).f0).length c137_0, .slice none 0 0]) ?_ 1 _ rfl; (with_reducible repeat (first | refine blk_drewN ?_ _ | refine blk_drew ?_ | refine blk_alloc ?_ _)); refine blk_put (cs := #[.slice none 0 0, .slice none 0 0]) ?_ 0 _ rfl; (with_reducible repeat (first | refine blk_drewN ?_ _ | refine blk_drew ?_ | refine blk_alloc ?_ _)); exact BK138.out))⟩; have n8_ : Aside0 (Below w.heap.size w w94) := ⟨(by rw [hw]; exact (by repeat (first | (with_reducible first | exact HB.out | apply below_alloc | apply pw_below_drewN | apply below_drew1 | refine below_set ?_ GE134.out | refine below_set ?_ GE135.out | refine below_set ?_ GE136.out | refine below_set ?_ GE138.out) | exact HB.out)))⟩; clear hw; clear HO_135000; clear HO_137000; clear HL137_0; clear HL137_1; clear BK134; clear BK135; clear BK136; clear BK138; clear HB; have HO_135000 := n0_; have HO_137000 := n1_; have HL137_0 := n2_; have HL137_1 := n3_; have BK134 := n4_; have BK135 := n5_; have BK136 := n6_; have BK138 := n7_; have HB := n8_; clear n0_ n1_ n2_ n3_ n4_ n5_ n6_ n7_ n8_; have hcz95_0 : w94.cell? ⟨gb138, 0, none⟩ = some (.slice A137_0 ((rd_T60 l0_0 x4_1).f0).length c137_0) := (blk_cell BK138.out 0).trans rfl; have hcz95_1 : w94.cell? ⟨gb138, 1, none⟩ = some (.slice A137_1 ((rd_T60 l0_0 x4_1).f1).length c137_1) := (blk_cell BK138.out 1).trans rfl; have hfz95_0 := blk_frozen BK138.out 0; have hfz95_1 := blk_frozen BK138.out 1; have hnb96 := NB136_135.out; have hnc96 := NB135_136.out; have hcz97_0 : w94.cell? ⟨gb136, 0, none⟩ = some (u137000) := (blk_cell BK136.out 0).trans rfl; have hfz97_0 := blk_frozen BK136.out 0) | ((with_reducible refine gate_builtin (b := .append) (xs := #[.tmp 40, .tmp 42]) rfl ?_); at_builtin; refine Kd.N_append k60 (w0 := w) w.heap.size rfl (.tmp 40) (.tmp 42) 23 60 (.agg #[(.slice none 0 0), (.slice none 0 0)]) 48 rfl Try.underlying23 info60 rfl (by decide) (by omega) u137000 x137000_1 (⟨(rd_T60 l0_0 x4_1).f0, (rd_T60 l0_0 x4_1).f1⟩ : S60) [.slice A137_0 ((rd_T60 l0_0 x4_1).f0).length c137_0, .slice A137_1 ((rd_T60 l0_0 x4_1).f1).length c137_1] (fun k_ => (P0_0_ k_ ∨ w.heap.size ≤ k_) ∧ k_ ≠ gb134 ∧ k_ ≠ gb135 ∧ k_ ≠ gb136 ∧ k_ ≠ gb138) (fun k_ => ((fun k_ => (P0_0_ k_ ∨ w.heap.size ≤ k_) ∧ k_ ≠ gb134 ∧ k_ ≠ gb135 ∧ k_ ≠ gb136 ∧ k_ ≠ gb138)) k_ ∧ some k_ ≠ (u137000 : Value).ownBlock) rfl rfl ?aP (fun _ hk => hk) ?aF ?aO ?aB ?aS ?aL ?_; (case aP => exact (k60_mkF _ _ (⟨(rd_T60 l0_0 x4_1).f0, (rd_T60 l0_0 x4_1).f1⟩ : S60) (Kd.V_reads' (Kd.V_mono (ok' := (fun k_ => ((fun k_ => (P0_0_ k_ ∨ w.heap.size ≤ k_) ∧ k_ ≠ gb134 ∧ k_ ≠ gb135 ∧ k_ ≠ gb136 ∧ k_ ≠ gb138)) k_ ∧ some k_ ≠ (u137000 : Value).ownBlock)) (HL137_0.out) (fun k_ hk => ⟨⟨hk.1, ⟨hk.2.2.1, ⟨hk.2.2.2.1, ⟨hk.2.2.2.2.1, hk.2.2.2.2.2⟩⟩⟩⟩, hk.2.1⟩))).2.1 (Kd.V_F (Kd.V_mono (ok' := (fun k_ => ((fun k_ => (P0_0_ k_ ∨ w.heap.size ≤ k_) ∧ k_ ≠ gb134 ∧ k_ ≠ gb135 ∧ k_ ≠ gb136 ∧ k_ ≠ gb138)) k_ ∧ some k_ ≠ (u137000 : Value).ownBlock)) (HL137_0.out) (fun k_ hk => ⟨⟨hk.1, ⟨hk.2.2.1, ⟨hk.2.2.2.1, ⟨hk.2.2.2.2.1, hk.2.2.2.2.2⟩⟩⟩⟩, hk.2.1⟩))) (Kd.V_reads' (Kd.V_mono (ok' := (fun k_ => ((fun k_ => (P0_0_ k_ ∨ w.heap.size ≤ k_) ∧ k_ ≠ gb134 ∧ k_ ≠ gb135 ∧ k_ ≠ gb136 ∧ k_ ≠ gb138)) k_ ∧ some k_ ≠ (u137000 : Value).ownBlock)) (HL137_1.out) (fun k_ hk => ⟨⟨hk.1, ⟨hk.2.2.1, ⟨hk.2.2.2.1, ⟨hk.2.2.2.2.1, hk.2.2.2.2.2⟩⟩⟩⟩, hk.2.1⟩))).2.1 (Kd.V_F (Kd.V_mono (ok' := (fun k_ => ((fun k_ => (P0_0_ k_ ∨ w.heap.size ≤ k_) ∧ k_ ≠ gb134 ∧ k_ ≠ gb135 ∧ k_ ≠ gb136 ∧ k_ ≠ gb138)) k_ ∧ some k_ ≠ (u137000 : Value).ownBlock)) (HL137_1.out) (fun k_ hk => ⟨⟨hk.1, ⟨hk.2.2.1, ⟨hk.2.2.2.1, ⟨hk.2.2.2.2.1, hk.2.2.2.2.2⟩⟩⟩⟩, hk.2.1⟩))))); (case aB => exact (by repeat (first | (with_reducible first | exact HB.out | apply below_alloc | apply pw_below_drewN | apply below_drew1 | refine below_set ?_ GE134.out | refine below_set ?_ GE135.out | refine below_set ?_ GE136.out | refine below_set ?_ GE138.out) | exact HB.out))); (case aF => exact (fun k_ hk => ⟨(.inr (Nat.le_trans (below_size (by repeat (first | (with_reducible first | exact HB.out | apply below_alloc | apply pw_below_drewN | apply below_drew1 | refine below_set ?_ GE134.out | refine below_set ?_ GE135.out | refine below_set ?_ GE136.out | refine below_set ?_ GE138.out) | exact HB.out))) hk)), Kd.freshB (g := gb134) (o := .cells #[.slice (some ad137) l0_0.length c0_0] 25 (0, 0)) (by (with_reducible repeat (first | refine blk_drewN ?_ _ | refine blk_drew ?_ | refine blk_alloc ?_ _)); exact BK134.out) k_ hk, Kd.freshB (g := gb135) (o := .cells #[.slice none 0 0] 25 (0, 0)) (by (with_reducible repeat (first | refine blk_drewN ?_ _ | refine blk_drew ?_ | refine blk_alloc ?_ _)); exact BK135.out) k_ hk, Kd.freshB (g := gb136) (o := .cells #[u137000] 25 (0, 0)) (by (with_reducible repeat (first | refine blk_drewN ?_ _ | refine blk_drew ?_ | refine blk_alloc ?_ _)); exact BK136.out) k_ hk, Kd.freshB (g := gb138) (o := .cells #[.slice A137_0 ((rd_T60 l0_0 x4_1).f0).length c137_0, .slice A137_1 ((rd_T60 l0_0 x4_1).f1).length c137_1] 60 (0, 0)) (by (with_reducible repeat (first | refine blk_drewN ?_ _ | refine blk_drew ?_ | refine blk_alloc ?_ _)); exact BK138.out) k_ hk⟩)); (case aO => exact (by (with_reducible repeat (first | apply Kd.N_alloc | apply Kd.N_drewN | apply Kd.N_drew)); exact HO_137000.out)); (case aS => exact (below_size (by repeat (first | (with_reducible first | exact HB.out | apply below_alloc | apply pw_below_drewN | apply below_drew1 | refine below_set ?_ GE134.out | refine below_set ?_ GE135.out | refine below_set ?_ GE136.out | refine below_set ?_ GE138.out) | exact HB.out)))); (case aL => have := LMc85.out; omega); intro v164 w98 ho hb hg hat; rw [← Ny163.out] at ho; have n0_ := Aside0.mk (Kd.V_afterv (ok := (fun k_ => (P0_0_ k_ ∨ w.heap.size ≤ k_) ∧ k_ ≠ gb134 ∧ k_ ≠ gb135 ∧ k_ ≠ gb136 ∧ k_ ≠ gb138)) (by (with_reducible repeat (first | apply Kd.V_alloc | apply Kd.V_drewN | apply Kd.V_drew)); exact Kd.V_mono HO_135000.out (fun _ hk => ⟨⟨hk.1, ⟨hk.2.2.1, ⟨hk.2.2.2.1, ⟨hk.2.2.2.2.1, hk.2.2.2.2.2⟩⟩⟩⟩, hk.2.1⟩)) hg hat); have n1_ := Aside0.mk (blk_grown (g := gb134) (o := .cells #[.slice (some ad137) l0_0.length c0_0] 25 (0, 0)) (by (with_reducible repeat (first | refine blk_drewN ?_ _ | refine blk_drew ?_ | refine blk_alloc ?_ _)); exact BK134.out) hg (Kd.N_ne HO_137000.out BK134.out (by decide))); have n2_ := Aside0.mk (blk_grown (g := gb135) (o := .cells #[.slice none 0 0] 25 (0, 0)) (by (with_reducible repeat (first | refine blk_drewN ?_ _ | refine blk_drew ?_ | refine blk_alloc ?_ _)); exact BK135.out) hg (Kd.N_ne HO_137000.out BK135.out (by decide))); have n3_ := Aside0.mk (blk_grown (g := gb136) (o := .cells #[u137000] 25 (0, 0)) (by (with_reducible repeat (first | refine blk_drewN ?_ _ | refine blk_drew ?_ | refine blk_alloc ?_ _)); exact BK136.out) hg (Kd.N_ne HO_137000.out BK136.out (by decide))); have n4_ := Aside0.mk (Kd.V_afterv (ok := (fun k_ => (P0_0_ k_ ∨ w.heap.size ≤ k_) ∧ k_ ≠ gb134 ∧ k_ ≠ gb135 ∧ k_ ≠ gb136 ∧ k_ ≠ gb138)) (by (with_reducible repeat (first | apply Kd.V_alloc | apply Kd.V_drewN | apply Kd.V_drew)); exact Kd.V_mono HL137_0.out (fun _ hk => ⟨⟨hk.1, ⟨hk.2.2.1, ⟨hk.2.2.2.1, ⟨hk.2.2.2.2.1, hk.2.2.2.2.2⟩⟩⟩⟩, hk.2.1⟩)) hg hat); have n5_ := Aside0.mk (Kd.V_afterv (ok := (fun k_ => (P0_0_ k_ ∨ w.heap.size ≤ k_) ∧ k_ ≠ gb134 ∧ k_ ≠ gb135 ∧ k_ ≠ gb136 ∧ k_ ≠ gb138)) (by (with_reducible repeat (first | apply Kd.V_alloc | apply Kd.V_drewN | apply Kd.V_drew)); exact Kd.V_mono HL137_1.out (fun _ hk => ⟨⟨hk.1, ⟨hk.2.2.1, ⟨hk.2.2.2.1, ⟨hk.2.2.2.2.1, hk.2.2.2.2.2⟩⟩⟩⟩, hk.2.1⟩)) hg hat); have n6_ := Aside0.mk (blk_grown (g := gb138) (o := .cells #[.slice A137_0 ((rd_T60 l0_0 x4_1).f0).length c137_0, .slice A137_1 ((rd_T60 l0_0 x4_1).f1).length c137_1] 60 (0, 0)) (by (with_reducible repeat (first | refine blk_drewN ?_ _ | refine blk_drew ?_ | refine blk_alloc ?_ _)); exact BK138.out) hg (Kd.N_away HO_137000.out (fun _ hk => hk.2.2.2.2))); have n7_ := Aside0.mk (hb); have n8_ := Aside0.mk (ho); clear HO_135000; clear BK134; clear BK135; clear BK136; clear HL137_0; clear HL137_1; clear BK138; clear HB; clear HO_137000; have HO_135000 := n0_; have BK134 := n1_; have BK135 := n2_; have BK136 := n3_; have HL137_0 := n4_; have HL137_1 := n5_; have BK138 := n6_; have HB := n7_; have HO165 := n8_; clear n0_ n1_ n2_ n3_ n4_ n5_ n6_ n7_ n8_; clear ho hb hg hat; obtain ⟨Ao99, co99, eo99⟩ := Kd.N_slice HO165.out; subst eo99; have hcz100_0 : w98.cell? ⟨gb136, 0, none⟩ = some (u137000) := (blk_cell BK136.out 0).trans rfl; have hfz100_0 := blk_frozen BK136.out 0))
                      go_roundg kj7
                      case measure => have := HK1.out; have := HJ7.out; omega
                      case rel => exact ⟨(wrap64 (x4_1 + 1)), (y163), (.slice Ao99 y163.length co99), (by first | rfl | (simp; done) | (simp [*]; done)), H', ⟨by have := HK1.out; have := HJ7.out; omega⟩, ⟨by (with_reducible repeat (first | apply Kd.V_alloc | apply Kd.V_drewN | apply Kd.V_drew)); exact Kd.V_mono (Kd.V_far (p := ⟨gb136, 0, none⟩) (Kd.V_mono HO_135000.out (fun k_ hk => (⟨hk, hk.1.2.2.2.1⟩ : _ ∧ k_ ≠ gb136))) (fun _ hk => hk.2) (.slice Ao99 y163.length co99)) (fun _ hk => ⟨hk.1.1.1, ⟨hk.1.2, ⟨hk.1.1.2.1, ⟨hk.1.1.2.2.1, hk.1.1.2.2.2.1⟩⟩⟩⟩)⟩, ⟨by (with_reducible repeat (first | apply Kd.N_alloc | apply Kd.N_drewN | apply Kd.N_drew)); exact Kd.N_mono (Kd.N_far (p := ⟨gb136, 0, none⟩) (Kd.N_mono HO165.out (fun k_ hk => (⟨hk, hk.2.2.2.1⟩ : _ ∧ k_ ≠ gb136))) (fun _ hk => hk.2) (.slice Ao99 y163.length co99)) (fun _ hk => ⟨hk.1.1, ⟨hk.1.2.1, ⟨hk.1.2.2.1, hk.1.2.2.2.1⟩⟩⟩)⟩, ⟨by (with_reducible repeat (first | refine blk_drewN ?_ _ | refine blk_drew ?_ | refine blk_alloc ?_ _)); refine blk_far ?_ NB134_136.out _; (with_reducible repeat (first | refine blk_drewN ?_ _ | refine blk_drew ?_ | refine blk_alloc ?_ _)); exact BK134.out⟩, ⟨by (with_reducible repeat (first | refine blk_drewN ?_ _ | refine blk_drew ?_ | refine blk_alloc ?_ _)); refine blk_far ?_ NB135_136.out _; (with_reducible repeat (first | refine blk_drewN ?_ _ | refine blk_drew ?_ | refine blk_alloc ?_ _)); exact BK135.out⟩, ⟨by (with_reducible repeat (first | refine blk_drewN ?_ _ | refine blk_drew ?_ | refine blk_alloc ?_ _)); refine blk_put (cs := #[u137000]) ?_ 0 _ rfl; (with_reducible repeat (first | refine blk_drewN ?_ _ | refine blk_drew ?_ | refine blk_alloc ?_ _)); exact BK136.out⟩, ⟨by repeat (first | (with_reducible first | exact HB.out | apply below_alloc | apply pw_below_drewN | apply below_drew1 | refine below_set ?_ GE134.out | refine below_set ?_ GE135.out | refine below_set ?_ GE136.out | refine below_set ?_ GE138.out) | exact HB.out)⟩⟩
                    · rw [if_neg c85] at H
                      exact absurd H (by simp)
              · rw [if_neg c18] at H
                exact absurd H (by simp)
            · rw [if_neg c17] at H
              exact absurd H (by simp)
          · replace c16 := Bool.eq_false_iff.mpr c16
            subst c16
            have H1 : (some x137000_1) = some r := by rw [if_neg (show ¬ (false = true) by decide)] at H; exact H
            clear H
            have H := H1
            clear H1
            obtain rfl := Option.some.inj H
            have hnb101 := NB136_134.out
            have hnc101 := NB134_136.out
            have hnb102 := NB136_135.out
            have hnc102 := NB135_136.out
            have hcz103_0 : wc.cell? ⟨gb136, 0, none⟩ = some (u137000) := (blk_cell BK136.out 0).trans rfl
            have hfz103_0 := blk_frozen BK136.out 0
            obtain ⟨Ao104, co104, eo104⟩ := Kd.N_slice HO_137000.out
            subst eo104
            have hnb105 := NB135_134.out
            have hnc105 := NB134_135.out
            have hcz106_0 : wc.cell? ⟨gb135, 0, none⟩ = some (.slice none 0 0) := (blk_cell BK135.out 0).trans rfl
            have hfz106_0 := blk_frozen BK135.out 0
            go_wp2
            refine bodyPost_ret (results_cell_row rfl _ _ gb135 25 #[.slice Ao104 x137000_1.length co104] (0, 0) _ rfl (by (with_reducible repeat (first | refine blk_drewN ?_ _ | refine blk_drew ?_ | refine blk_alloc ?_ _)); refine blk_put (cs := #[.slice none 0 0]) ?_ 0 _ rfl; (with_reducible repeat (first | refine blk_drewN ?_ _ | refine blk_drew ?_ | refine blk_alloc ?_ _)); exact BK135.out) Try.underlying25 rfl (by kernel_rfl)) rfl ?_
            exact ⟨_, by first | rfl | (simp [errW_none, errW_some] <;> rfl) | (simp [*, errW_none, errW_some] <;> rfl), by (with_reducible repeat (first | apply Kd.N_alloc | apply Kd.N_drewN | apply Kd.N_drew)); exact Kd.N_mono (Kd.N_far (p := ⟨gb135, 0, none⟩) (Kd.N_mono HO_137000.out (fun k_ hk => (⟨hk, hk.2.2.1⟩ : _ ∧ k_ ≠ gb135))) (fun _ hk => hk.2) (.slice Ao104 x137000_1.length co104)) (fun _ hk => hk.1.1), by repeat (first | (with_reducible first | exact HB.out | apply below_alloc | apply pw_below_drewN | apply below_drew1 | refine below_set ?_ GE134.out | refine below_set ?_ GE135.out | refine below_set ?_ GE136.out) | exact HB.out)⟩

end Go.Proofs.Ytdpigeineephlaa.Prt

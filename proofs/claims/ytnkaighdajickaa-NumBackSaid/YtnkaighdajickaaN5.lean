/- The contracts of package num and of its reference, told of whole slices. -/
import Derived.Test.YtnkaighdajickaaN4
namespace Go.Proofs.Ytnkaighdajickaa.Num
open Go.RowKit Go.Proofs.YtnkaighdajickaaW.PrintWords Go.Proofs.YtnkaighdajickaaW.PrintLast Go.Proofs.YtnkaighdajickaaW.PrintMore
set_option linter.unusedVariables false
set_option linter.unusedSimpArgs false

/-- A slice that reads as a list. -/
def Lst {α : Type} (d : Kd α) (w : World) (v : Value) (l : List α) : Prop := ∃ A c, v = .slice A l.length c ∧ l.length ≤ c ∧ d.C w A l.length l
section
variable {α : Type} {d : Kd α} {w w1 : World} {v : Value} {l : List α}
theorem Lst.below (h : Lst d w v l) (hb : Below w.heap.size w w1) : Lst d w1 v l := by
  obtain ⟨A, c, h1, h2, h3⟩ := h
  exact ⟨A, c, h1, h2, Kd.C_below h3 hb⟩
theorem Lst.alloc (h : Lst d w v l) (o : Obj) : Lst d (w.alloc o) v l := h.below (below_alloc (Below.refl _ _) o)
theorem Lst.drewN (h : Lst d w v l) (m : Nat) : Lst d (w.drewN m) v l := h.below (pw_below_drewN (Below.refl _ _) m)
theorem Lst.drew (h : Lst d w v l) : Lst d w.drew v l := h.below (below_drew (Below.refl _ _))
theorem Lst.mk {A : Option Addr} {c : Nat} (hc : l.length ≤ c) (hC : d.C w A l.length l) : Lst d w (.slice A l.length c) l := ⟨A, c, rfl, hc, hC⟩
theorem Lst.of_R {e base : Nat} {ok : Nat → Prop} (h : d.R e w base ok v l) : Lst d w v l := by
  obtain ⟨A, c, rfl, hc, hC⟩ := Kd.R_reads h
  exact ⟨A, c, rfl, hc, hC⟩
theorem Lst.nil (d : Kd α) (w : World) : Lst d w (.slice none 0 0) [] := ⟨none, 0, rfl, Nat.le_refl _, Kd.C_nil d w⟩
theorem Lst.take {A : Option Addr} {n c : Nat} (h : Lst d w (.slice A n c) l) {m : Nat} (hm : m ≤ n) : Lst d w (.slice A m c) (l.take m) := by
  obtain ⟨A', c', e, h2, h3⟩ := h
  injection e with e1 e2 e3
  subst e1; subst e2; subst e3
  have h4 := Kd.C_take h3 hm
  have h5 : (l.take m).length = m := by rw [List.length_take]; omega
  exact ⟨A, c, by rw [h5], by rw [h5]; omega, h4⟩
theorem Lst.of_K {e : Nat} {v : Value} (h : (Kd.slice e d).K w l [v]) : Lst d w v l := by
  obtain ⟨A, c, e, h2, h3⟩ := h
  injection e with e
  exact ⟨A, c, e, h2, h3⟩
theorem Lst.len_le (h : Lst d w v l) : l.length ≤ 9223372036854775807 := by obtain ⟨A, c, _, _, h3⟩ := h; exact Kd.C_max h3
end
abbrev U8 : Kd Int := Kd.int .u8

theorem putL (v : Value) (l0 : List Int) (a1 : Int) (w : World) (hv : Lst U8 w v l0) (h1 : -9223372036854775808 ≤ a1) (h2 : a1 ≤ 9223372036854775807) (hl : l0.length ≤ 140737488350000) :
    Calls Try.prog 12 #[v, .int .i64 a1] w fun e w' => ∃ v1, e = .returned v1 ∧ Lst U8 w' v1 (l0 ++ enc a1) ∧ Below w.heap.size w w' := by
  obtain ⟨A, c, rfl, hc, hC⟩ := hv
  refine (put_calls A c l0 a1 w hC hc h1 h2 hl).mono ?_
  rintro e w1 ⟨v, rfl, ho, hb⟩
  exact ⟨v, rfl, Lst.of_R ho, hb⟩
theorem refPutL (v : Value) (l0 : List Int) (a1 : Int) (w : World) (hv : Lst U8 w v l0) (h1 : -9223372036854775808 ≤ a1) (h2 : a1 ≤ 9223372036854775807) (hl : l0.length ≤ 140737488350000) :
    Calls Try.prog 13 #[v, .int .i64 a1] w fun e w' => ∃ v1, e = .returned v1 ∧ Lst U8 w' v1 (l0 ++ enc a1) ∧ Below w.heap.size w w' := by
  obtain ⟨A, c, rfl, hc, hC⟩ := hv
  refine (refPut_calls A c l0 a1 w hC hc h1 h2 hl).mono ?_
  rintro e w1 ⟨v, rfl, ho, hb⟩
  exact ⟨v, rfl, Lst.of_R ho, hb⟩
theorem putTextL (v : Value) (l0 : List Int) (s : ByteArray) (w : World) (hv : Lst U8 w v l0) (hl : l0.length + s.size ≤ 140737488349000) :
    Calls Try.prog 14 #[v, .string s] w fun e w' => ∃ v1, e = .returned v1 ∧ Lst U8 w' v1 (l0 ++ encT (bytesOf s)) ∧ Below w.heap.size w w' := by
  obtain ⟨A, c, rfl, hc, hC⟩ := hv
  refine (putText_calls A c l0 s w hC hc hl).mono ?_
  rintro e w1 ⟨v, rfl, ho, hb⟩
  exact ⟨v, rfl, Lst.of_R ho, hb⟩
theorem refPutTextL (v : Value) (l0 : List Int) (s : ByteArray) (w : World) (hv : Lst U8 w v l0) (hl : l0.length + s.size ≤ 140737488349000) :
    Calls Try.prog 15 #[v, .string s] w fun e w' => ∃ v1, e = .returned v1 ∧ Lst U8 w' v1 (l0 ++ encT (bytesOf s)) ∧ Below w.heap.size w w' := by
  obtain ⟨A, c, rfl, hc, hC⟩ := hv
  refine (refPutText_calls A c l0 s w hC hc hl).mono ?_
  rintro e w1 ⟨v, rfl, ho, hb⟩
  exact ⟨v, rfl, Lst.of_R ho, hb⟩
theorem newReaderL (v : Value) (l : List Int) (w : World) (hv : Lst U8 w v l) :
    Calls Try.prog 16 #[v] w fun e w' => ∃ g : Nat, e = .returned (.pointer (some ⟨g, 0, none⟩)) ∧ Rd 47 (fun k => k < w.heap.size) w' g l false ∧ Below w.heap.size w w' ∧ w.heap.size ≤ g := by
  obtain ⟨A, c, rfl, hc, hC⟩ := hv
  exact newReader_calls A c l w hC hc
/-- string(b) at a world. -/
theorem Lst.conv {w : World} {v : Value} {l : List Int} (h : Lst U8 w v l) : (convert 23 9 v).run Try.prog w = .ok (.string (strOfNums l)) w := by
  obtain ⟨A, c, rfl, hc, hC⟩ := h
  exact Kd.C_string Try.underlying23 Try.underlying5 Try.underlying9 hC
end Go.Proofs.Ytnkaighdajickaa.Num

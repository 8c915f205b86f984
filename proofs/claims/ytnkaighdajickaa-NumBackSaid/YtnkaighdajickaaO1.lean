/- Arguments of any shape, opened: what reads as data lies in memory as a list, a struct, a text .. -/
import Derived.Test.YtnkaighdajickaaB0
import Derived.Test.YtnkaighdajickaaP1
import Derived.ChangeArms
import Derived.OpenShut
import Derived.DataReads
import Derived.Deep.Slices
namespace Go.Proofs.Ytnkaighdajickaa.Gen
open Go.RowKit Go.Proofs.YtnkaighdajickaaW.PrintWords Go.Proofs.YtnkaighdajickaaW.PrintLast Go.Proofs.YtnkaighdajickaaW.PrintMore
set_option linter.unusedVariables false
set_option linter.unusedSimpArgs false

theorem list_of {α : Type} {p : Nat → α → Prop} : ∀ n : Nat, (∀ i, i < n → ∃ x, p i x) → ∃ xs : List α, xs.length = n ∧ ∀ i x, xs[i]? = some x → p i x := by
  intro n
  induction n with
  | zero => exact fun _ => ⟨[], rfl, fun i x h => by simp at h⟩
  | succ n ih =>
    intro h
    obtain ⟨xs, h1, h2⟩ := ih (fun i hi => h i (by omega))
    obtain ⟨y, hy⟩ := h n (by omega)
    refine ⟨xs ++ [y], by simp [h1], fun i x hx => ?_⟩
    rcases Nat.lt_or_ge i xs.length with hi | hi
    · rw [List.getElem?_append_left hi] at hx; exact h2 i x hx
    · have hl := (List.getElem?_eq_some_iff.1 hx).1
      rw [List.length_append, List.length_singleton] at hl
      obtain rfl : i = xs.length := by omega
      rw [List.getElem?_append_right hi] at hx
      simp at hx
      subst hx
      rw [h1]; exact hy
/-- Whatever reads as data of type t stands as an x of kind k that is ok. -/
def Opens {α : Type} (P : Program) (t : TypeId) (k : Kd α) (ok : α → Prop) : Prop :=
  ∀ {H : Type} (enc : TypeId × Value → H) (w : World) (base : Nat) (spare : Nat → Bool) (held : Bool) (fuel : Nat) (cs : List Value) (y : DataW H × List MemPlace), DataW.trod enc P w base spare held fuel t cs = some y → ∃ x, k.K w x cs ∧ ok x
section
variable {P : Program} {t e : TypeId}
theorem opens_bool (ht : P.underlying t = some .bool) : Opens P t Kd.bool (fun _ => True) := by
  intro H enc w base spare held fuel cs y h
  obtain ⟨b, rfl, _⟩ := DataW.trod_bool ht h
  exact ⟨b, rfl, trivial⟩
theorem opens_int {k : IntKind} (ht : P.underlying t = some (.int k)) : Opens P t (Kd.int k) (fun n => (Lit.int k n).wf = true) := by
  intro H enc w base spare held fuel cs y h
  obtain ⟨n, rfl, _, h2⟩ := DataW.trod_int ht h
  exact ⟨n, rfl, h2⟩
theorem opens_string (ht : P.underlying t = some .string) : Opens P t Kd.string (fun s => s.size ≤ maxLen) := by
  intro H enc w base spare held fuel cs y h
  obtain ⟨s, rfl, _, h2⟩ := DataW.trod_string ht h
  exact ⟨s, rfl, h2⟩
theorem opens_slice {α : Type} {k : Kd α} {ok : α → Prop} (ht : P.underlying t = some (.slice e)) (hc : P.cellsOf e = k.sz) (he : Opens P e k ok) : Opens P t (Kd.slice e k) (fun xs => ∀ x ∈ xs, ok x) := by
  intro H enc w base spare held fuel cs y h
  rcases DataW.trod_slice ht h with ⟨rfl, _⟩ | ⟨a, len, cap, elems, rest, n, _, rfl, _, hb, hl, hm, hlen, hel, _, _⟩
  · exact ⟨[], ⟨none, 0, rfl, Nat.le_refl _, Kd.C_nil _ _⟩, fun x hx => by simp at hx⟩
  · have key : ∀ i, i < len → ∃ x, (∃ c, c.length = k.sz ∧ k.K w x c ∧ ∀ j u, c[j]? = some u → w.cell? (a.add (i * k.sz + j)) = some u) ∧ ok x := by
      intro i hi
      have h1 := hel i hi
      have h2 : elems[i]? = some elems[i] := List.getElem?_eq_getElem (by omega)
      rw [h2] at h1
      obtain ⟨c, hcells, htrod⟩ := Option.bind_eq_some_iff.1 h1
      obtain ⟨x, hx, hok⟩ := he enc w base spare held n c _ htrod
      obtain ⟨_, hcl, hcc⟩ := World.cells?_some hcells
      refine ⟨x, ⟨c, by rw [hcl, hc], hx, fun j u hj => ?_⟩, hok⟩
      have hjl : j < P.cellsOf e := by rw [← hcl]; exact (List.getElem?_eq_some_iff.1 hj).1
      have h3 := hcc j hjl
      rw [hj, hc] at h3
      rw [← h3]
      congr 1
      exact (Go.Deep.add_add a (i * k.sz) j).symm
    obtain ⟨xs, hxl, hx⟩ := list_of len key
    refine ⟨xs, ⟨some a, cap, by rw [hxl], by rw [hxl]; exact hl, hxl ▸ rfl, by rw [hxl]; simp only [maxLen] at hm; omega, fun _ => ⟨a, rfl, fun j p hp => (hx j p hp).1⟩⟩, fun x hxm => ?_⟩
    obtain ⟨j, hj⟩ := List.mem_iff_getElem?.1 hxm
    exact (hx j x hj).2
end
end Go.Proofs.Ytnkaighdajickaa.Gen

/- The statement EvcodeMore, of plain functions. Arguments of any shape, opened: what reads as data lies in memory as a list, a struct, a text .. Arguments that are events, opened. Arguments that are rows of events, opened. The statement EvcodeMore: the walk of the law. -/
import Derived.ChangeArms
import Derived.OpenShut
import Derived.DataReads
import Derived.Deep.Slices
import Derived.Test.YtmnidohgnnpeiaaYEvcodeMore1
import Derived.Test.YtmnidohgnnpeiaaYEvcodeMore2
import Derived.Test.YtmnidohgnnpeiaaYEvcodeMore3
import Derived.Test.YtmnidohgnnpeiaaYEvcodeMore4
import Derived.Test.YtmnidohgnnpeiaaYEvcodeMore5
namespace Go.Proofs.Ytmnidohgnnpeiaa.Prt
open Go.RowKit Go.Proofs.YtmnidohgnnpeiaaW.PrintWords Go.Proofs.YtmnidohgnnpeiaaW.PrintLast Go.Proofs.YtmnidohgnnpeiaaW.PrintMore Go.Proofs.Ytmnidohgnnpeiaa.Num Go.Proofs.Ytmnidohgnnpeiaa.Nam
set_option linter.unusedVariables false
set_option linter.unusedSimpArgs false

theorem rdE_last (g : List S26) (x : S26) : rd_T26 (g ++ [x]) ((g.length : Nat) : Int) = x := by
  unfold rd_T26
  rw [Int.toNat_natCast, List.getD_eq_getElem?_getD, List.getElem?_append_right (Nat.le_refl _)]; simp
theorem all_nil : evcode_All.f [] = some ([], 0) := by
  rw [all_ok (fun c hc => by simp at hc) (by simp), takeAll, if_pos (show ([] : List Int).length = 0 from rfl)]
theorem sameG_refl (s t : ByteArray) (a : List ByteArray) (f : List S35) (ha : a.length ≤ 9223372036854775807) (hf : f.length ≤ 9223372036854775807) : registrarref04_SameG.f s t a f s t a f = some true := by
  have e : eqEv s t a f s t a f = true := eqEv_iff.2 ⟨rfl, rfl, rfl, rfl⟩
  rw [← e]
  exact if_pos ⟨ha, hf⟩
theorem more_j2 (k : Nat) (n code : Int) (b : List Int) (m : List S26) (s t : ByteArray) (a : List ByteArray) (f : List S35) (hall : evcode_All.f b = some (m, 0)) (hn : (m.length : Int) = n)
    (hc : code = 0 → 0 ≤ wrap64 (n - 1) ∧ wrap64 (n - 1) < (m.length : Int) ∧ rd_T26 m (wrap64 (n - 1)) = ⟨s, t, a.take 12, f.take 12⟩) :
    registrarlaw05_EvcodeMore.j2 (k + 1) true n b code s t a f = some true := by
  rw [registrarlaw05_EvcodeMore.j2, hall, all_nil, few05]
  simp only [Option.bind_some, if_true, List.length_nil]
  rw [if_pos hn, if_pos (show ((0 : Nat) : Int) = 0 from rfl)]
  by_cases h : code = 0
  · obtain ⟨h1, h2, h3⟩ := hc h
    rw [if_pos h, if_pos h1, if_pos h2, h3]
    show (registrarref04_SameG.f s t (a.take 12) (f.take 12) s t (a.take 12) (f.take 12)).bind _ = _
    rw [sameG_refl _ _ _ _ (take12 _) (take12 _)]
    rfl
  · rw [if_neg h]
theorem more_end (x0 : List S26) (s t : ByteArray) (a : List ByteArray) (f : List S35) (hf : Fits s t a f) (g : List S26) (i : Int) (k : Nat) (hg : ∀ x ∈ g, OkX x) (h8 : g.length ≤ 8) :
    registrarlaw05_EvcodeMore.j1 (k + 2) x0 true (encEs g) (g.length : Int) i false s t a f = some true := by
  have hl := encEs_size g hg
  have hlo := encEs_long g
  rw [registrarlaw05_EvcodeMore.j1, if_neg (by simp), few05]
  simp only [Option.bind_some]
  rw [putG_ok (by omega) (take12 _) (fit_few hf)]
  simp only [Option.bind_some]
  by_cases h0 : mayE s t (a.take 12) (f.take 12) = 0
  · have ok := (okE_iff _ _ _ _).1 h0
    obtain ⟨v, hv⟩ : ∃ v : S26, v = ⟨s, t, a.take 12, f.take 12⟩ := ⟨_, rfl⟩
    have e : encEs g ++ encEv s t (a.take 12) (f.take 12) = encEs (g ++ [v]) := by rw [hv]; exact (encEs_snoc g (⟨s, t, a.take 12, f.take 12⟩ : S26)).symm
    have hgv : ∀ x ∈ g ++ [v], OkX x := by
      intro y hy
      rcases List.mem_append.1 hy with hy | hy
      · exact hg y hy
      · rw [List.mem_singleton.1 hy, hv]; exact ok
    have hl2 := encEs_size _ hgv
    have hlo2 := encEs_long (g ++ [v])
    have hlen : (g ++ [v]).length = g.length + 1 := by rw [List.length_append, List.length_singleton]
    have r1 : rd_T26 (g ++ [v]) ((g.length : Nat) : Int) = v := rdE_last g v
    have w1 : wrap64 ((g.length : Int) + 1) = (g.length : Int) + 1 := wrapI (by omega) (by omega)
    have w2 : wrap64 ((g.length : Int) + 1 - 1) = (g.length : Int) := by rw [wrapI (by omega) (by omega)]; omega
    have ha : evcode_All.f (encEs (g ++ [v])) = some (g ++ [v], 0) := by rw [all_ok (encEs_bytes _) (by omega), takeAll_enc _ _ _ hgv (by omega)]; rfl
    rw [if_pos h0]
    simp only [if_true]
    rw [e, w1]
    exact more_j2 k _ 0 _ _ s t a f ha (by omega) (fun _ => by rw [w2]; exact ⟨by omega, by omega, r1.trans hv⟩)
  · have ha : evcode_All.f (encEs g) = some (g, 0) := by rw [all_ok (encEs_bytes _) (by omega), takeAll_enc _ _ _ hg (by omega)]; rfl
    rw [if_neg h0]
    simp only [if_neg h0]
    exact more_j2 k _ _ _ _ s t a f ha rfl (fun h => absurd h h0)
theorem more_l0 (x0 : List S26) (s t : ByteArray) (a : List ByteArray) (f : List S35) (hfe : Fits s t a f) (hf : ∀ x ∈ x0, Fits x.f0 x.f1 x.f2 x.f3) :
    ∀ (n i k : Nat) (g : List S26), i + n = 8 → 2 * n + 5 ≤ k → (∀ x ∈ g, OkX x) → g.length ≤ i → registrarlaw05_EvcodeMore.l0 k x0 true (encEs g) (g.length : Int) (i : Int) s t a f = some true := by
  intro n
  induction n with
  | zero =>
    intro i k g hi hk hg hgi
    obtain ⟨k, rfl⟩ : ∃ m, k = m + 3 := ⟨k - 3, by omega⟩
    rw [registrarlaw05_EvcodeMore.l0]
    by_cases c : (i : Int) < (x0.length : Int)
    · rw [if_pos c, decide_eq_false (by omega)]; exact more_end x0 s t a f hfe g i k hg (by omega)
    · rw [if_neg c]; exact more_end x0 s t a f hfe g i k hg (by omega)
  | succ n ih =>
    intro i k g hi hk hg hgi
    obtain ⟨k, rfl⟩ : ∃ m, k = m + 3 := ⟨k - 3, by omega⟩
    rw [registrarlaw05_EvcodeMore.l0]
    by_cases c : (i : Int) < (x0.length : Int)
    · have hl := encEs_size g hg
      have hx := hf _ (rdE_mem (l := x0) (i := i) (by omega))
      obtain ⟨e, he⟩ : ∃ e, e = rd_T26 x0 (i : Int) := ⟨_, rfl⟩
      rw [← he] at hx
      rw [if_pos c, decide_eq_true (by omega), registrarlaw05_EvcodeMore.j1, if_pos rfl, if_pos (by omega), if_pos c, few05, ← he]
      simp only [Option.bind_some]
      rw [putG_ok (by omega) (take12 _) (fit_few hx)]
      simp only [Option.bind_some]
      by_cases h0 : mayE e.f0 e.f1 (e.f2.take 12) (e.f3.take 12) = 0
      · have ok := (okE_iff _ _ _ _).1 h0
        obtain ⟨v, hv⟩ : ∃ v : S26, v = ⟨e.f0, e.f1, e.f2.take 12, e.f3.take 12⟩ := ⟨_, rfl⟩
        have e2 : encEs g ++ encEv e.f0 e.f1 (e.f2.take 12) (e.f3.take 12) = encEs (g ++ [v]) := by rw [hv]; exact (encEs_snoc g (⟨e.f0, e.f1, e.f2.take 12, e.f3.take 12⟩ : S26)).symm
        have hlen : (g ++ [v]).length = g.length + 1 := by rw [List.length_append, List.length_singleton]
        rw [if_pos h0]
        simp only [if_true]
        rw [e2, succW i (by omega), succW g.length (by omega), ← hlen]
        refine ih (i + 1) (k + 1) (g ++ [v]) (by omega) (by omega) ?_ (by omega)
        intro y hy
        rcases List.mem_append.1 hy with hy | hy
        · exact hg y hy
        · rw [List.mem_singleton.1 hy, hv]; exact ok
      · rw [if_neg h0]
        simp only [if_neg h0]
        rw [succW i (by omega)]
        exact ih (i + 1) (k + 1) g (by omega) (by omega) hg (by omega)
    · rw [if_neg c]; exact more_end x0 s t a f hfe g i k hg (by omega)
theorem evcodeMore_true (l : List S26) (s t : ByteArray) (a : List ByteArray) (f : List S35) (hf : ∀ x ∈ l, Fits x.f0 x.f1 x.f2 x.f3) (hfe : Fits s t a f) : registrarlaw05_EvcodeMore.f 60 l s t a f = some true := by
  unfold registrarlaw05_EvcodeMore.f
  rw [shown05]
  simp only [Option.bind_some]
  have h := more_l0 l s t a f hfe hf 8 0 60 [] (by omega) (by omega) (fun x hx => by simp at hx) (by simp)
  have e1 : encEs [] = [] := rfl
  have e3 : ((0 : Nat) : Int) = 0 := rfl
  have e4 : ((([] : List S26).length : Nat) : Int) = 0 := rfl
  rw [e1, e3, e4] at h
  exact h
end Go.Proofs.Ytmnidohgnnpeiaa.Prt
namespace Go.Proofs.Ytmnidohgnnpeiaa.Gen
open Go.RowKit Go.Proofs.YtmnidohgnnpeiaaW.PrintWords Go.Proofs.YtmnidohgnnpeiaaW.PrintLast Go.Proofs.YtmnidohgnnpeiaaW.PrintMore
set_option linter.unusedVariables false
set_option linter.unusedSimpArgs false

theorem list_of {α : Type} {p : Nat → α → Prop} : ∀ n : Nat, (∀ i, i < n → ∃ x, p i x) → ∃ xs : List α, xs.length = n ∧ ∀ i x, xs[i]? = some x → p i x := by
  intro n
  induction n with
  | zero => exact fun _ => ⟨[], rfl, fun i x h => by simp at h⟩
  | succ n ih =>
    intro h
    obtain ⟨xs, h1, h2⟩ := ih (fun i hi => h i (by omega))
    obtain ⟨y, hy⟩ := h n (by omega)
    refine ⟨xs ++ [y], by simp [h1], fun i x hx => ?_⟩
    rcases Nat.lt_or_ge i xs.length with hi | hi
    · rw [List.getElem?_append_left hi] at hx; exact h2 i x hx
    · have hl := (List.getElem?_eq_some_iff.1 hx).1
      rw [List.length_append, List.length_singleton] at hl
      obtain rfl : i = xs.length := by omega
      rw [List.getElem?_append_right hi] at hx
      simp at hx
      subst hx
      rw [h1]; exact hy
/-- Whatever reads as data of type t stands as an x of kind k that is ok. -/
def Opens {α : Type} (P : Program) (t : TypeId) (k : Kd α) (ok : α → Prop) : Prop :=
  ∀ {H : Type} (enc : TypeId × Value → H) (w : World) (base : Nat) (spare : Nat → Bool) (held : Bool) (fuel : Nat) (cs : List Value) (y : DataW H × List MemPlace), DataW.trod enc P w base spare held fuel t cs = some y → ∃ x, k.K w x cs ∧ ok x
section
variable {P : Program} {t e : TypeId}
theorem opens_int {k : IntKind} (ht : P.underlying t = some (.int k)) : Opens P t (Kd.int k) (fun n => (Lit.int k n).wf = true) := by
  intro H enc w base spare held fuel cs y h
  obtain ⟨n, rfl, _, h2⟩ := DataW.trod_int ht h
  exact ⟨n, rfl, h2⟩
theorem opens_string (ht : P.underlying t = some .string) : Opens P t Kd.string (fun s => s.size ≤ maxLen) := by
  intro H enc w base spare held fuel cs y h
  obtain ⟨s, rfl, _, h2⟩ := DataW.trod_string ht h
  exact ⟨s, rfl, h2⟩
theorem opens_slice {α : Type} {k : Kd α} {ok : α → Prop} (ht : P.underlying t = some (.slice e)) (hc : P.cellsOf e = k.sz) (he : Opens P e k ok) : Opens P t (Kd.slice e k) (fun xs => ∀ x ∈ xs, ok x) := by
  intro H enc w base spare held fuel cs y h
  rcases DataW.trod_slice ht h with ⟨rfl, _⟩ | ⟨a, len, cap, elems, rest, n, _, rfl, _, hb, hl, hm, hlen, hel, _, _⟩
  · exact ⟨[], ⟨none, 0, rfl, Nat.le_refl _, Kd.C_nil _ _⟩, fun x hx => by simp at hx⟩
  · have key : ∀ i, i < len → ∃ x, (∃ c, c.length = k.sz ∧ k.K w x c ∧ ∀ j u, c[j]? = some u → w.cell? (a.add (i * k.sz + j)) = some u) ∧ ok x := by
      intro i hi
      have h1 := hel i hi
      have h2 : elems[i]? = some elems[i] := List.getElem?_eq_getElem (by omega)
      rw [h2] at h1
      obtain ⟨c, hcells, htrod⟩ := Option.bind_eq_some_iff.1 h1
      obtain ⟨x, hx, hok⟩ := he enc w base spare held n c _ htrod
      obtain ⟨_, hcl, hcc⟩ := World.cells?_some hcells
      refine ⟨x, ⟨c, by rw [hcl, hc], hx, fun j u hj => ?_⟩, hok⟩
      have hjl : j < P.cellsOf e := by rw [← hcl]; exact (List.getElem?_eq_some_iff.1 hj).1
      have h3 := hcc j hjl
      rw [hj, hc] at h3
      rw [← h3]
      congr 1
      exact (Go.Deep.add_add a (i * k.sz) j).symm
    obtain ⟨xs, hxl, hx⟩ := list_of len key
    refine ⟨xs, ⟨some a, cap, by rw [hxl], by rw [hxl]; exact hl, hxl ▸ rfl, by rw [hxl]; simp only [maxLen] at hm; omega, fun _ => ⟨a, rfl, fun j p hp => (hx j p hp).1⟩⟩, fun x hxm => ?_⟩
    obtain ⟨j, hj⟩ := List.mem_iff_getElem?.1 hxm
    exact (hx j x hj).2
end
end Go.Proofs.Ytmnidohgnnpeiaa.Gen
namespace Go.Proofs.Ytmnidohgnnpeiaa.Gen
open Go.RowKit Go.Proofs.YtmnidohgnnpeiaaW.PrintWords Go.Proofs.YtmnidohgnnpeiaaW.PrintLast Go.Proofs.YtmnidohgnnpeiaaW.PrintMore Go.Proofs.Ytmnidohgnnpeiaa.Prt
set_option linter.unusedVariables false
set_option linter.unusedSimpArgs false
theorem opens_str : Opens Try.prog 9 Kd.string (fun s => s.size ≤ maxLen) := opens_string Try.underlying9
theorem opens_i64 : Opens Try.prog 3 (Kd.int .i64) (fun n => (Lit.int .i64 n).wf = true) := opens_int Try.underlying3
theorem opens_strs : Opens Try.prog 23 (Kd.slice 9 Kd.string) (fun xs => ∀ x ∈ xs, x.size ≤ maxLen) := opens_slice Try.underlying23 (by kernel_rfl) opens_str
theorem opens_field : Opens Try.prog 35 k35 (fun x => x.f0.size ≤ maxLen ∧ (Lit.int .i64 x.f1).wf = true) := by
  intro H enc w base spare held fuel cs y h
  obtain ⟨xs, n, _, _, hl, hlen, hf⟩ := DataW.trod_struct Try.underlying35 h
  rw [show Try.prog.cellsOf 35 = 2 from by kernel_rfl] at hl
  have hlen' : xs.length = 2 := hlen
  have h0 := hf 0 _ rfl
  rw [List.getElem?_eq_getElem (l := xs) (i := 0) (by omega)] at h0
  replace h0 : DataW.trod enc Try.prog w base spare held n 9 ((cs.drop 0).take (Try.prog.cellsOf 9)) = some xs[0] := h0
  rw [show Try.prog.cellsOf 9 = 1 from by kernel_rfl] at h0
  obtain ⟨x0, K0, o0⟩ := opens_str enc w base spare held n _ _ h0
  have h1 := hf 1 _ rfl
  rw [List.getElem?_eq_getElem (l := xs) (i := 1) (by omega)] at h1
  replace h1 : DataW.trod enc Try.prog w base spare held n 3 ((cs.drop 1).take (Try.prog.cellsOf 3)) = some xs[1] := h1
  rw [show Try.prog.cellsOf 3 = 1 from by kernel_rfl] at h1
  obtain ⟨x1, K1, o1⟩ := opens_i64 enc w base spare held n _ _ h1
  have e : cs = (cs.drop 0).take 1 ++ ((cs.drop 1).take 1) := by
    have g0 : cs.drop 0 = (cs.drop 0).take 1 ++ cs.drop 1 := by rw [show cs.drop 1 = (cs.drop 0).drop 1 from by rw [List.drop_drop], List.take_append_drop]
    have g1 : cs.drop 1 = (cs.drop 1).take 1 ++ cs.drop 2 := by rw [show cs.drop 2 = (cs.drop 1).drop 1 from by rw [List.drop_drop], List.take_append_drop]
    have z : cs.drop 2 = [] := List.drop_eq_nil_of_le (by omega)
    rw [z, List.append_nil] at g1
    calc cs = cs.drop 0 := rfl
      _ = (cs.drop 0).take 1 ++ ((cs.drop 1).take 1) := by rw [← g1]; exact g0
  refine ⟨⟨x0, x1⟩, ?_, o0, o1⟩
  rw [e]
  exact ⟨_, _, rfl, K0, K1⟩
theorem opens_fields : Opens Try.prog 24 (Kd.slice 35 k35) (fun xs => ∀ x ∈ xs, x.f0.size ≤ maxLen ∧ (Lit.int .i64 x.f1).wf = true) := opens_slice Try.underlying24 (by kernel_rfl) opens_field
theorem opens_event : Opens Try.prog 26 k26 (fun x => x.f0.size ≤ maxLen ∧ x.f1.size ≤ maxLen ∧ (∀ z ∈ x.f2, z.size ≤ maxLen) ∧ (∀ z ∈ x.f3, z.f0.size ≤ maxLen ∧ (Lit.int .i64 z.f1).wf = true)) := by
  intro H enc w base spare held fuel cs y h
  obtain ⟨xs, n, _, _, hl, hlen, hf⟩ := DataW.trod_struct Try.underlying26 h
  rw [show Try.prog.cellsOf 26 = 4 from by kernel_rfl] at hl
  have hlen' : xs.length = 4 := hlen
  have h0 := hf 0 _ rfl
  rw [List.getElem?_eq_getElem (l := xs) (i := 0) (by omega)] at h0
  replace h0 : DataW.trod enc Try.prog w base spare held n 9 ((cs.drop 0).take (Try.prog.cellsOf 9)) = some xs[0] := h0
  rw [show Try.prog.cellsOf 9 = 1 from by kernel_rfl] at h0
  obtain ⟨x0, K0, o0⟩ := opens_str enc w base spare held n _ _ h0
  have h1 := hf 1 _ rfl
  rw [List.getElem?_eq_getElem (l := xs) (i := 1) (by omega)] at h1
  replace h1 : DataW.trod enc Try.prog w base spare held n 9 ((cs.drop 1).take (Try.prog.cellsOf 9)) = some xs[1] := h1
  rw [show Try.prog.cellsOf 9 = 1 from by kernel_rfl] at h1
  obtain ⟨x1, K1, o1⟩ := opens_str enc w base spare held n _ _ h1
  have h2 := hf 2 _ rfl
  rw [List.getElem?_eq_getElem (l := xs) (i := 2) (by omega)] at h2
  replace h2 : DataW.trod enc Try.prog w base spare held n 23 ((cs.drop 2).take (Try.prog.cellsOf 23)) = some xs[2] := h2
  rw [show Try.prog.cellsOf 23 = 1 from by kernel_rfl] at h2
  obtain ⟨x2, K2, o2⟩ := opens_strs enc w base spare held n _ _ h2
  have h3 := hf 3 _ rfl
  rw [List.getElem?_eq_getElem (l := xs) (i := 3) (by omega)] at h3
  replace h3 : DataW.trod enc Try.prog w base spare held n 24 ((cs.drop 3).take (Try.prog.cellsOf 24)) = some xs[3] := h3
  rw [show Try.prog.cellsOf 24 = 1 from by kernel_rfl] at h3
  obtain ⟨x3, K3, o3⟩ := opens_fields enc w base spare held n _ _ h3
  have e : cs = (cs.drop 0).take 1 ++ ((cs.drop 1).take 1 ++ ((cs.drop 2).take 1 ++ ((cs.drop 3).take 1))) := by
    have g0 : cs.drop 0 = (cs.drop 0).take 1 ++ cs.drop 1 := by rw [show cs.drop 1 = (cs.drop 0).drop 1 from by rw [List.drop_drop], List.take_append_drop]
    have g1 : cs.drop 1 = (cs.drop 1).take 1 ++ cs.drop 2 := by rw [show cs.drop 2 = (cs.drop 1).drop 1 from by rw [List.drop_drop], List.take_append_drop]
    have g2 : cs.drop 2 = (cs.drop 2).take 1 ++ cs.drop 3 := by rw [show cs.drop 3 = (cs.drop 2).drop 1 from by rw [List.drop_drop], List.take_append_drop]
    have g3 : cs.drop 3 = (cs.drop 3).take 1 ++ cs.drop 4 := by rw [show cs.drop 4 = (cs.drop 3).drop 1 from by rw [List.drop_drop], List.take_append_drop]
    have z : cs.drop 4 = [] := List.drop_eq_nil_of_le (by omega)
    rw [z, List.append_nil] at g3
    calc cs = cs.drop 0 := rfl
      _ = (cs.drop 0).take 1 ++ ((cs.drop 1).take 1 ++ ((cs.drop 2).take 1 ++ ((cs.drop 3).take 1))) := by rw [← g3, ← g2, ← g1]; exact g0
  refine ⟨⟨x0, x1, x2, x3⟩, ?_, o0, o1, o2, o3⟩
  rw [e]
  exact ⟨_, _, rfl, K0, ⟨_, _, rfl, K1, ⟨_, _, rfl, K2, K3⟩⟩⟩
end Go.Proofs.Ytmnidohgnnpeiaa.Gen
namespace Go.Proofs.Ytmnidohgnnpeiaa.Gen
open Go.RowKit Go.Proofs.YtmnidohgnnpeiaaW.PrintWords Go.Proofs.YtmnidohgnnpeiaaW.PrintLast Go.Proofs.YtmnidohgnnpeiaaW.PrintMore Go.Proofs.Ytmnidohgnnpeiaa.Prt
set_option linter.unusedVariables false
set_option linter.unusedSimpArgs false
theorem opens_events : Opens Try.prog 46 (Kd.slice 26 k26) (fun xs => ∀ x ∈ xs, x.f0.size ≤ maxLen ∧ x.f1.size ≤ maxLen ∧ (∀ z ∈ x.f2, z.size ≤ maxLen) ∧ (∀ z ∈ x.f3, z.f0.size ≤ maxLen ∧ (Lit.int .i64 z.f1).wf = true)) := opens_slice Try.underlying46 (by kernel_rfl) opens_event
end Go.Proofs.Ytmnidohgnnpeiaa.Gen
namespace Go.Proofs.Ytmnidohgnnpeiaa.Prt
open Go.RowKit Go.Proofs.YtmnidohgnnpeiaaW.PrintWords Go.Proofs.YtmnidohgnnpeiaaW.PrintLast Go.Proofs.YtmnidohgnnpeiaaW.PrintMore Go.Proofs.Ytmnidohgnnpeiaa.Num Go.Proofs.Ytmnidohgnnpeiaa.Nam Go.Proofs.Ytmnidohgnnpeiaa.Gen
set_option linter.unusedVariables false
set_option linter.unusedSimpArgs false

theorem evcodeMore_law (vs : Value) (xs : List S26) (cs : Array Value) (x : S26) (w : World) (y : (Kd.slice 26 k26).K w xs [vs]) (hx : ∀ x ∈ xs, x.f0.size ≤ maxLen ∧ x.f1.size ≤ maxLen ∧ (∀ z ∈ x.f2, z.size ≤ maxLen) ∧ (∀ z ∈ x.f3, z.f0.size ≤ maxLen ∧ (Lit.int .i64 z.f1).wf = true))
    (y' : k26.K w x cs.toList) (hx' : x.f0.size ≤ maxLen ∧ x.f1.size ≤ maxLen ∧ (∀ z ∈ x.f2, z.size ≤ maxLen) ∧ (∀ z ∈ x.f3, z.f0.size ≤ maxLen ∧ (Lit.int .i64 z.f1).wf = true)) :
    Calls Try.prog 8 #[vs, .agg cs] w fun e w' => e = .returned (.bool true) ∧ Below w.heap.size w w' := by
  obtain ⟨A, c, e, hc, hC⟩ := y
  obtain rfl : vs = .slice A xs.length c := by simpa using e
  obtain ⟨A2, c2, A3, c3, e', h2, g2, h3, g3⟩ := k26_open y'
  obtain rfl : cs = #[.string x.f0, .string x.f1, .slice A2 x.f2.length c2, .slice A3 x.f3.length c3] := by cases cs; simp_all
  have hf : ∀ x ∈ xs, Fits x.f0 x.f1 x.f2 x.f3 := fun x h => ⟨(hx x h).1, (hx x h).2.1, (hx x h).2.2.1, fun z hz => ((hx x h).2.2.2 z hz).1⟩
  have hfe : Fits x.f0 x.f1 x.f2 x.f3 := ⟨hx'.1, hx'.2.1, hx'.2.2.1, fun z hz => (hx'.2.2.2 z hz).1⟩
  exact registrarlaw05_EvcodeMore.calls 60 A c xs x.f0 x.f1 A2 c2 x.f2 A3 c3 x.f3 true w hC hc g2 h2 g3 h3 (evcodeMore_true xs x.f0 x.f1 x.f2 x.f3 hf hfe)
end Go.Proofs.Ytmnidohgnnpeiaa.Prt

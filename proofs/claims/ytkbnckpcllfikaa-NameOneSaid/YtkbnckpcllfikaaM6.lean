/- Names: steps of the plain laws; Tag, shown, short. -/
import Derived.Test.YtkbnckpcllfikaaM5
namespace Go.Proofs.Ytkbnckpcllfikaa.Nam
open Go.RowKit Go.Proofs.YtkbnckpcllfikaaW.PrintWords Go.Proofs.YtkbnckpcllfikaaW.PrintLast Go.Proofs.YtkbnckpcllfikaaW.PrintMore Go.Proofs.Ytkbnckpcllfikaa.Num Go.Proofs.Ytkbnckpcllfikaa.Prt
set_option linter.unusedVariables false
set_option linter.unusedSimpArgs false

theorem lo1 {c : Int} {r : List Int} (h : plainC c = true) : lettersOnly (c :: r) = lettersOnly r := by
  rw [lettersOnly_step (by rw [letD_pos1 h]; decide), letD_pos1 h]; rfl
theorem letD_two {c d : Int} {r : List Int} (h : two c d = true) : letD (c :: d :: r) = 2 := by
  have hp : ¬ plainC c = true := fun h2 => by rw [two_iff] at h; have := plain_range h2; omega
  simp only [letD, if_neg hp, if_pos h]
theorem lo2 {c d : Int} {r : List Int} (h : two c d = true) : lettersOnly (c :: d :: r) = lettersOnly r := by
  rw [lettersOnly_step (by rw [letD_two h]; decide), letD_two h]; rfl
theorem fo1 {c : Int} {r : List Int} (h : plainC c = true) : foldL (c :: r) = c :: foldL r := by
  have e : stepL (c :: r) = ([c], 1) := by unfold stepL; simp only [letD_pos1 h]; rw [if_pos (by decide)]; rfl
  rw [foldL_step (by simp), e]; rfl
theorem fo2 {c d : Int} {r : List Int} (h : two c d = true) : foldL (c :: d :: r) = c :: d :: foldL r := by
  have e : stepL (c :: d :: r) = ([c, d], 2) := by unfold stepL; simp only [letD_two h]; rw [if_pos (by decide)]; rfl
  rw [foldL_step (by simp), e]; rfl
theorem fo_up {c : Int} {r : List Int} (h1 : 65 ≤ c) (h2 : c ≤ 90) : foldL (c :: r) = (c + 32) :: foldL r := by
  have hp : ¬ plainC c = true := fun h => by unfold plainC at h; simp only [Bool.or_eq_true, decide_eq_true_eq] at h; omega
  have e : stepL (c :: r) = ([c + 32], 1) := by unfold stepL; simp only [(letD0 (r := r) hp (by omega) (by omega)).1, List.getD_cons_zero]; rw [if_neg (by decide), if_pos ⟨h1, h2⟩]
  rw [foldL_step (by simp), e]; rfl
theorem fo_sp {c : Int} {r : List Int} (h : c = 32 ∨ c = 46 ∨ c = 47) : foldL (c :: r) = 45 :: foldL r := by
  have hp : ¬ plainC c = true := fun h2 => by unfold plainC at h2; simp only [Bool.or_eq_true, decide_eq_true_eq] at h2; omega
  have e : stepL (c :: r) = ([45], 1) := by unfold stepL; simp only [(letD0 (r := r) hp (by omega) (by omega)).1, List.getD_cons_zero]; rw [if_neg (by decide), if_neg (by omega), if_pos h]
  rw [foldL_step (by simp), e]; rfl
theorem fo_big {c d : Int} {r o : List Int} (h : big c d = o) (ho : o ≠ []) : foldL (c :: d :: r) = o ++ foldL r := by
  have hc : (c = 195 ∧ (d = 137 ∨ d = 152)) ∨ (c = 206 ∧ d = 155) := by
    unfold big at h
    (repeat' split at h) <;> first | omega | exact absurd h.symm ho
  have hp : ¬ plainC c = true := fun h2 => by have := plain_range h2; omega
  have ht : ¬ two c d = true := fun h2 => by rw [two_iff] at h2; omega
  have e0 : letD (c :: d :: r) = 0 := by simp only [letD, if_neg hp, if_neg ht]
  have e : stepL (c :: d :: r) = (o, 2) := by
    have e2 : bigD (c :: d :: r) = o := h
    unfold stepL; simp only [e0, e2, List.getD_cons_zero]; rw [if_neg (by decide), if_neg (by omega), if_neg (by omega), if_pos ho]
  rw [foldL_step (by simp), e]; rfl
theorem bytes_append (a b : ByteArray) : bytesOf (a ++ b) = bytesOf a ++ bytesOf b := by
  rw [← strOfNums_bytesOf a, ← strOfNums_bytesOf b, ← str_append, bytesOf_strOfNums (isBytes_append.2 ⟨bytesOf_isBytes a, bytesOf_isBytes b⟩), strOfNums_bytesOf, strOfNums_bytesOf]
theorem may_of {l : List Int} (h1 : 1 ≤ l.length ∧ l.length ≤ 24) (h2 : notFirst (l.getD 0 0) = false) (h3 : lettersOnly l = true) : mayL l = true := by
  unfold mayL; rw [decide_eq_true h1, h2, h3]; rfl
theorem may_first {l : List Int} (h : notFirst (l.getD 0 0) = true) : mayL l = false := by unfold mayL; rw [h]; simp
theorem may_bad {l : List Int} (h : lettersOnly l = false) : mayL l = false := by unfold mayL; rw [h]; simp

/-- The contracts, told of a value by a name. -/
theorem mayC (b : Bool) (s : ByteArray) (w : World) (hs : s.size ≤ 1000000) (h : mayL (bytesOf s) = b) :
    Calls Try.prog 13 #[.string s] w fun e w' => e = .returned (.bool b) ∧ Below w.heap.size w w' := by
  subst h; exact may_calls s w (by omega)
theorem refMayC (b : Bool) (s : ByteArray) (w : World) (hs : s.size ≤ 1000000) (h : mayL (bytesOf s) = b) :
    Calls Try.prog 14 #[.string s] w fun e w' => e = .returned (.bool b) ∧ Below w.heap.size w w' := by
  subst h; exact registrarref03_May.calls _ s _ w (may_val s (by omega))
theorem foldC (f s : ByteArray) (w : World) (hs : s.size ≤ 1000000) (h : f = strOfNums (foldL (bytesOf s))) :
    Calls Try.prog 15 #[.string s] w fun e w' => e = .returned (.string f) ∧ Below w.heap.size w w' := by
  subst h; exact fold_calls s w hs
theorem refFoldC (f s : ByteArray) (w : World) (hs : s.size ≤ 1000000) (h : f = strOfNums (foldL (bytesOf s))) :
    Calls Try.prog 16 #[.string s] w fun e w' => e = .returned (.string f) ∧ Below w.heap.size w w' := by
  subst h; exact registrarref03_Fold.calls _ s _ w (fold_val s (by omega))
theorem tagYes (k v : ByteArray) (w : World) (hk : k.size ≤ 100000) (hv : v.size ≤ 100000) (h1 : mayL (bytesOf k) = true) (h2 : mayL (bytesOf v) = true) :
    Calls Try.prog 17 #[.string k, .string v] w fun e w' => e = .returned (.string (k ++ ⟨#[58]⟩ ++ v)) ∧ Below w.heap.size w w' := by
  have HB := Aside0.mk (Below.refl w.heap.size w)
  have H1 := Aside0.mk h1
  have H2 := Aside0.mk h2
  have hsz : (k ++ ⟨#[58]⟩ : ByteArray).size = k.size + 1 := by rw [ByteArray.size_append]; rfl
  clear h1 h2
  go_enter Try.func17, Try.ntmps17
  go_wp2_with fail
  refine (mayC true k _ (by omega) H1.out).mono ?_
  rintro e w1 ⟨rfl, hb⟩
  have n_ := Aside0.mk (below_step (by repeat (first | (with_reducible first | exact HB.out | apply below_alloc | apply pw_below_drewN | apply below_drew1) | exact HB.out)) hb); clear HB hb; have HB := n_; clear n_
  go_wp2_with fail
  refine (mayC true v _ (by omega) H2.out).mono ?_
  rintro e w2 ⟨rfl, hb⟩
  have n_ := Aside0.mk (below_step (by repeat (first | (with_reducible first | exact HB.out | apply below_alloc | apply pw_below_drewN | apply below_drew1) | exact HB.out)) hb); clear HB hb; have HB := n_; clear n_
  have HSZ := Aside0.mk hsz
  have hs1 : (k ++ ⟨#[58]⟩ : ByteArray).size + v.size ≤ 9223372036854775807 := by omega
  have hs2 : k.size + 1 ≤ 9223372036854775807 := by omega
  clear hsz
  go_wp2
  go_ret
  exact ⟨rfl, (by repeat (first | (with_reducible first | exact HB.out | apply below_alloc | apply pw_below_drewN | apply below_drew1) | exact HB.out))⟩
theorem tagNo (k v : ByteArray) (w : World) (hk : k.size ≤ 100000) (hv : v.size ≤ 100000) (h : mayL (bytesOf k) = false ∨ mayL (bytesOf v) = false) :
    Calls Try.prog 17 #[.string k, .string v] w fun e w' => e = .returned (.string ⟨#[]⟩) ∧ Below w.heap.size w w' := by
  have HB := Aside0.mk (Below.refl w.heap.size w)
  cases h1 : mayL (bytesOf k) with
  | false =>
    have H1 := Aside0.mk h1
    clear h1 h
    go_enter Try.func17, Try.ntmps17
    go_wp2_with fail
    refine (mayC false k _ (by omega) H1.out).mono ?_
    rintro e w1 ⟨rfl, hb⟩
    have n_ := Aside0.mk (below_step (by repeat (first | (with_reducible first | exact HB.out | apply below_alloc | apply pw_below_drewN | apply below_drew1) | exact HB.out)) hb); clear HB hb; have HB := n_; clear n_
    go_wp2
    go_ret
    exact ⟨rfl, (by repeat (first | (with_reducible first | exact HB.out | apply below_alloc | apply pw_below_drewN | apply below_drew1) | exact HB.out))⟩
  | true =>
    have H1 := Aside0.mk h1
    have H2 : Aside0 (mayL (bytesOf v) = false) := ⟨by rcases h with h | h; rw [h] at h1; cases h1; exact h⟩
    clear h1 h
    go_enter Try.func17, Try.ntmps17
    go_wp2_with fail
    refine (mayC true k _ (by omega) H1.out).mono ?_
    rintro e w1 ⟨rfl, hb⟩
    have n_ := Aside0.mk (below_step (by repeat (first | (with_reducible first | exact HB.out | apply below_alloc | apply pw_below_drewN | apply below_drew1) | exact HB.out)) hb); clear HB hb; have HB := n_; clear n_
    go_wp2_with fail
    refine (mayC false v _ (by omega) H2.out).mono ?_
    rintro e w2 ⟨rfl, hb⟩
    have n_ := Aside0.mk (below_step (by repeat (first | (with_reducible first | exact HB.out | apply below_alloc | apply pw_below_drewN | apply below_drew1) | exact HB.out)) hb); clear HB hb; have HB := n_; clear n_
    go_wp2
    go_ret
    exact ⟨rfl, (by repeat (first | (with_reducible first | exact HB.out | apply below_alloc | apply pw_below_drewN | apply below_drew1) | exact HB.out))⟩
def sh (s : ByteArray) : ByteArray := s.extract 0 (min s.size 60)
theorem sh_size (s : ByteArray) : (sh s).size ≤ 60 := by unfold sh; rw [ByteArray.size_extract]; omega
theorem short_calls (s : ByteArray) (w : World) (hs : s.size ≤ 9223372036854775807) : Calls Try.prog 12 #[.string s] w fun e w' => e = .returned (.string (sh s)) ∧ w = w' := by
  unfold sh
  by_cases h : 60 < s.size
  · rw [Nat.min_eq_right (by omega)]
    go_enter Try.func12, Try.ntmps12
    go_wp2
    go_ret
    exact ⟨rfl, rfl⟩
  · have e : s.extract 0 (min s.size 60) = s := by rw [Nat.min_eq_left (by omega)]; simp
    rw [e]
    go_enter Try.func12, Try.ntmps12
    go_wp2
    go_ret
    exact ⟨rfl, rfl⟩
end Go.Proofs.Ytkbnckpcllfikaa.Nam
